/- A part of the proof of Rows.ShopBackSaid: what ShopBack answers, whatever the arguments; it stands under no condition. -/
import Derived.Test.YtdehaflkiobnlaaGreatBack21
set_option linter.unusedVariables false
set_option linter.unusedSimpArgs false
set_option linter.unusedSectionVars false
set_option linter.deprecated false
namespace Go.Proofs.YtdehaflkiobnlaaGreat
open Go.ChangeShapes Go.WideShapes Go.ChangeAt Go.RowKit
theorem fact7_20 : ((Rows.shopBackRow.ifacesOut == Tryz.f7.resultTypes.toList.any (Tryz.prog.ifacesRec ·))) = true := by kernel_rfl
theorem fact7_21 : ((Rows.shopBackRow.loopsOut == Tryz.f7.resultTypes.toList.any (Tryz.prog.loopsFrom ·))) = true := by kernel_rfl
theorem fact7_22 : ((Rows.shopBackRow.plainKeys == Tryz.prog.plainKeys)) = true := by kernel_rfl
theorem fact7_23 : (Rows.shopBackRow.shortTexts.isNone) = true := by kernel_rfl
theorem fact7_24 : (Tryz.prog.stopsHeard) = true := by kernel_rfl
theorem fact7_25 : (Tryz.prog.mayEnter) = true := by kernel_rfl
end Go.Proofs.YtdehaflkiobnlaaGreat
