/- A part of the proof of Rows.ShopBackSaid: what ShopBack answers, whatever the arguments; it stands under no condition. -/
import Derived.Test.YtdehaflkiobnlaaGreatBack21
set_option linter.unusedVariables false
set_option linter.unusedSimpArgs false
set_option linter.unusedSectionVars false
set_option linter.deprecated false
namespace Go.Proofs.YtdehaflkiobnlaaGreat
open Go.ChangeShapes Go.WideShapes Go.ChangeAt Go.RowKit
theorem fact7_10 : ((Rows.shopBackRow.unfollowed == Tryz.prog.unfollowed 7)) = true := by kernel_rfl
end Go.Proofs.YtdehaflkiobnlaaGreat
