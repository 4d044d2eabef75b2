/- A part of the proof of Rows.ShopTextsSaid: what the document's reading and writing of commands answers, and that the shop's is the same; it stands under no condition. -/
import Derived.Test.YtdehaflkiobnlaaGreatBack21
set_option linter.unusedVariables false
set_option linter.unusedSimpArgs false
set_option linter.unusedSectionVars false
set_option linter.deprecated false
namespace Go.Proofs.YtdehaflkiobnlaaGreat
open Go.ChangeShapes Go.WideShapes Go.ChangeAt Go.RowKit
theorem fact6_3 : (Tryz.f6.params.all (Tryz.prog.readableRec ·)) = true := by kernel_rfl
theorem fact6_4 : (namedTie Tryz.prog Rows.shopTextsRow.named Rows.shopTextsSpec.vars) = true := by kernel_rfl
theorem fact6_5 : ((Rows.shopTextsRow.stops == [])) = true := by kernel_rfl
theorem fact6_6 : ((Tryz.prog.stops == [])) = true := by kernel_rfl
theorem fact6_7 : ((Rows.shopTextsRow.knobs == [])) = true := by kernel_rfl
theorem fact6_8 : ((Tryz.prog.stopKnobs == [])) = true := by kernel_rfl
theorem fact6_18 : (Rows.shopTextsSpec.vars.all (Tryz.prog.varReadable ·)) = true := by kernel_rfl
theorem fact6_19 : (Tryz.f6.resultTypes.all (fun t => Tryz.prog.readableRec t && decide (t < Tryz.prog.types.size))) = true := by kernel_rfl
end Go.Proofs.YtdehaflkiobnlaaGreat
