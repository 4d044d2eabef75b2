/- A part of the proof of Rows.ShopTextsSaid: what the document's reading and writing of commands answers, and that the shop's is the same; it stands under no condition. -/
import Derived.Test.YtdehaflkiobnlaaGreatBack21
set_option linter.unusedVariables false
set_option linter.unusedSimpArgs false
set_option linter.unusedSectionVars false
set_option linter.deprecated false
namespace Go.Proofs.YtdehaflkiobnlaaGreat
open Go.ChangeShapes Go.WideShapes Go.ChangeAt Go.RowKit
theorem fact6_20 : ((Rows.shopTextsRow.ifacesOut == Tryz.f6.resultTypes.toList.any (Tryz.prog.ifacesRec ·))) = true := by kernel_rfl
theorem fact6_21 : ((Rows.shopTextsRow.loopsOut == Tryz.f6.resultTypes.toList.any (Tryz.prog.loopsFrom ·))) = true := by kernel_rfl
theorem fact6_22 : ((Rows.shopTextsRow.plainKeys == Tryz.prog.plainKeys)) = true := by kernel_rfl
theorem fact6_23 : (Rows.shopTextsRow.shortTexts.isNone) = true := by kernel_rfl
theorem fact6_24 : (Tryz.prog.stopsHeard) = true := by kernel_rfl
theorem fact6_25 : (Tryz.prog.mayEnter) = true := by kernel_rfl
end Go.Proofs.YtdehaflkiobnlaaGreat
