/- A part of the proof of Rows.ShopTextsSaid: what the document's reading and writing of commands answers, and that the shop's is the same; it stands under no condition. -/
import Derived.Test.YtdehaflkiobnlaaGreatBack21
set_option linter.unusedVariables false
set_option linter.unusedSimpArgs false
set_option linter.unusedSectionVars false
set_option linter.deprecated false
namespace Go.Proofs.YtdehaflkiobnlaaGreat
open Go.ChangeShapes Go.WideShapes Go.ChangeAt Go.RowKit
theorem fact6_13 : ((Rows.shopTextsRow.maps == (Tryz.f6.params.toList ++ Rows.shopTextsSpec.plain.varTypes Tryz.prog).any (Tryz.prog.mapsRec ·))) = true := by kernel_rfl
theorem fact6_14 : ((Rows.shopTextsRow.ifaces == (Tryz.f6.params.toList ++ Rows.shopTextsSpec.plain.varTypes Tryz.prog).any (Tryz.prog.ifacesRec ·))) = true := by kernel_rfl
theorem fact6_15 : ((Rows.shopTextsRow.mapsOut == Tryz.prog.mapsAmong Tryz.f6.resultTypes.toList)) = true := by kernel_rfl
theorem fact6_16 : ((Rows.shopTextsRow.loops == (Tryz.f6.params.toList ++ Rows.shopTextsSpec.plain.varTypes Tryz.prog).any (Tryz.prog.loopsFrom ·))) = true := by kernel_rfl
theorem fact6_17 : ((Rows.shopTextsRow.wideKeys == (Tryz.f6.params.toList ++ Rows.shopTextsSpec.plain.varTypes Tryz.prog ++ Tryz.f6.resultTypes.toList).any (Tryz.prog.wideKeysFrom ·))) = true := by kernel_rfl
end Go.Proofs.YtdehaflkiobnlaaGreat
