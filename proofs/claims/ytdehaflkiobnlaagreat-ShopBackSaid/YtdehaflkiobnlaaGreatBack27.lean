/- A part of the proof of Rows.ShopBackSaid: what ShopBack answers, whatever the arguments; it stands under no condition. -/
import Derived.Test.YtdehaflkiobnlaaGreatBack21
set_option linter.unusedVariables false
set_option linter.unusedSimpArgs false
set_option linter.unusedSectionVars false
set_option linter.deprecated false
namespace Go.Proofs.YtdehaflkiobnlaaGreat
open Go.ChangeShapes Go.WideShapes Go.ChangeAt Go.RowKit
theorem fact7_3 : (Tryz.f7.params.all (Tryz.prog.readableRec ·)) = true := by kernel_rfl
theorem fact7_4 : (namedTie Tryz.prog Rows.shopBackRow.named Rows.shopBackSpec.vars) = true := by kernel_rfl
theorem fact7_5 : ((Rows.shopBackRow.stops == [])) = true := by kernel_rfl
theorem fact7_6 : ((Tryz.prog.stops == [])) = true := by kernel_rfl
theorem fact7_7 : ((Rows.shopBackRow.knobs == [])) = true := by kernel_rfl
theorem fact7_8 : ((Tryz.prog.stopKnobs == [])) = true := by kernel_rfl
theorem fact7_18 : (Rows.shopBackSpec.vars.all (Tryz.prog.varReadable ·)) = true := by kernel_rfl
theorem fact7_19 : (Tryz.f7.resultTypes.all (fun t => Tryz.prog.readableRec t && decide (t < Tryz.prog.types.size))) = true := by kernel_rfl
end Go.Proofs.YtdehaflkiobnlaaGreat
