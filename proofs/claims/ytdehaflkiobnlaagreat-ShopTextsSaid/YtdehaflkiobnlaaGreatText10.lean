/- A part of the proof of Rows.ShopTextsSaid: what the document's reading and writing of commands answers, and that the shop's is the same; it stands under no condition. -/
import Derived.Test.YtdehaflkiobnlaaGreatBack21
set_option linter.unusedVariables false
set_option linter.unusedSimpArgs false
set_option linter.unusedSectionVars false
set_option linter.deprecated false
namespace Go.Proofs.YtdehaflkiobnlaaGreat
open Go.ChangeShapes Go.WideShapes Go.ChangeAt Go.RowKit
theorem fact6_26 : ((Rows.shopTextsRow.lifted == Tryz.prog.liftsFinal)) = true := by kernel_rfl
theorem fact6_27 : ((Tryz.prog.make == some Rows.shopTextsRow.make)) = true := by kernel_rfl
theorem fact6_28 : ((Rows.shopTextsRow.kinds == (if Rows.shopTextsRow.domain.isEmpty then [] else Tryz.f6.params.toList.map fun t => match Tryz.prog.underlying t with | some (.int k) => some k | _ => none))) = true := by kernel_rfl
theorem fact6_29 : ((Rows.shopTextsRow.pinned == Rows.shopTextsRow.pinnedBy)) = true := by kernel_rfl
theorem fact6_30 : ((Rows.shopTextsRow.veiled == (Tryz.f6.params.toList ++ Rows.shopTextsSpec.plain.varTypes Tryz.prog ++ Tryz.f6.resultTypes.toList).any (Tryz.prog.veiledRec ·))) = true := by kernel_rfl
theorem fact6_31 : (Rows.shopTextsRow.veiledFits Tryz.prog Tryz.f6.params.toList (Tryz.f6.params.toList ++ Rows.shopTextsSpec.plain.varTypes Tryz.prog ++ Tryz.f6.resultTypes.toList)) = true := by kernel_rfl
end Go.Proofs.YtdehaflkiobnlaaGreat
