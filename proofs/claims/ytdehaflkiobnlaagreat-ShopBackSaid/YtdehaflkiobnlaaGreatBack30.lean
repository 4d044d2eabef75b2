/- A part of the proof of Rows.ShopBackSaid: what ShopBack answers, whatever the arguments; it stands under no condition. -/
import Derived.Test.YtdehaflkiobnlaaGreatBack21
set_option linter.unusedVariables false
set_option linter.unusedSimpArgs false
set_option linter.unusedSectionVars false
set_option linter.deprecated false
namespace Go.Proofs.YtdehaflkiobnlaaGreat
open Go.ChangeShapes Go.WideShapes Go.ChangeAt Go.RowKit
theorem fact7_26 : ((Rows.shopBackRow.lifted == Tryz.prog.liftsFinal)) = true := by kernel_rfl
theorem fact7_27 : ((Tryz.prog.make == some Rows.shopBackRow.make)) = true := by kernel_rfl
theorem fact7_28 : ((Rows.shopBackRow.kinds == (if Rows.shopBackRow.domain.isEmpty then [] else Tryz.f7.params.toList.map fun t => match Tryz.prog.underlying t with | some (.int k) => some k | _ => none))) = true := by kernel_rfl
theorem fact7_29 : ((Rows.shopBackRow.pinned == Rows.shopBackRow.pinnedBy)) = true := by kernel_rfl
theorem fact7_30 : ((Rows.shopBackRow.veiled == (Tryz.f7.params.toList ++ Rows.shopBackSpec.plain.varTypes Tryz.prog ++ Tryz.f7.resultTypes.toList).any (Tryz.prog.veiledRec ·))) = true := by kernel_rfl
theorem fact7_31 : (Rows.shopBackRow.veiledFits Tryz.prog Tryz.f7.params.toList (Tryz.f7.params.toList ++ Rows.shopBackSpec.plain.varTypes Tryz.prog ++ Tryz.f7.resultTypes.toList)) = true := by kernel_rfl
end Go.Proofs.YtdehaflkiobnlaaGreat
