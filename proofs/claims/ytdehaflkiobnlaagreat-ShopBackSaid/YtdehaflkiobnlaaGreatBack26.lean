/- A part of the proof of Rows.ShopBackSaid: what ShopBack answers, whatever the arguments; it stands under no condition. -/
import Derived.Test.YtdehaflkiobnlaaGreatBack21
set_option linter.unusedVariables false
set_option linter.unusedSimpArgs false
set_option linter.unusedSectionVars false
set_option linter.deprecated false
namespace Go.Proofs.YtdehaflkiobnlaaGreat
open Go.ChangeShapes Go.WideShapes Go.ChangeAt Go.RowKit
theorem fact7_0 : (Rows.shopBackRow.wf (OpenSpec.ofChange Rows.shopBackSpec)) = true := by kernel_rfl
theorem fact7_1 : (laidOutB Tryz.prog) = true := by kernel_rfl
theorem fact7_2 : (mapsRowed Tryz.prog) = true := by kernel_rfl
end Go.Proofs.YtdehaflkiobnlaaGreat
