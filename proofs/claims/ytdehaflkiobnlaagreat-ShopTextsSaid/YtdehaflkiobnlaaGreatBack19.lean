/- A part of the proof of Rows.ShopBackSaid: what ShopBack answers, whatever the arguments; it stands under no condition. -/
import Derived.Test.YtdehaflkiobnlaaGreatBack14
import Derived.ReadAgain
set_option linter.unusedVariables false
set_option linter.unusedSimpArgs false
set_option linter.unusedSectionVars false
set_option linter.deprecated false
namespace Go.Fw
open Go Go.RowKit
noncomputable abbrev tP : Program := Go.Proofs.Tryz.prog
theorem kids : Kids tP (· < tP.types.size) := kids_rows (by kernel_rfl) (by kernel_rfl)
theorem full : ∀ t e, t < tP.types.size → tP.underlying t = some (.slice e) → 0 < tP.cellsOf e := slices_full_of tP (by kernel_rfl)
end Go.Fw
