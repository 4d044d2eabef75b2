/- A part of the proof of Rows.ShopTextsSaid: what the document's reading and writing of commands answers, and that the shop's is the same; it stands under no condition. -/
import Derived.Test.YtdehaflkiobnlaaGreatText02
import Derived.Test.YtdehaflkiobnlaaGreatText03
import Derived.Test.YtdehaflkiobnlaaGreatText04
import Derived.Test.YtdehaflkiobnlaaGreatText05
import Derived.Test.YtdehaflkiobnlaaGreatText06
import Derived.Test.YtdehaflkiobnlaaGreatText07
import Derived.Test.YtdehaflkiobnlaaGreatText08
import Derived.Test.YtdehaflkiobnlaaGreatText09
import Derived.Test.YtdehaflkiobnlaaGreatText10
set_option linter.unusedVariables false
set_option linter.unusedSimpArgs false
set_option linter.unusedSectionVars false
set_option linter.deprecated false
namespace Go.Proofs.YtdehaflkiobnlaaGreat
open Go.ChangeShapes Go.WideShapes Go.ChangeAt Go.RowKit
theorem and_t6 {a b : Bool} (ha : a = true) (hb : b = true) : (a && b) = true := by rw [ha, hb]; rfl
set_option maxRecDepth 100000 in
theorem closed6 : joinedFacts Tryz.prog 6 Tryz.f6 Rows.shopTextsSpec Rows.shopTextsRow = true := by
  unfold joinedFacts
  exact and_t6 (and_t6 (and_t6 (and_t6 (and_t6 (and_t6 (and_t6 (and_t6 (and_t6 (and_t6 (and_t6 (and_t6 (and_t6 (and_t6 (and_t6 (and_t6 (and_t6 (and_t6 (and_t6 (and_t6 (and_t6 (and_t6 (and_t6 (and_t6 (and_t6 (and_t6 (and_t6 (and_t6 (and_t6 (and_t6 (and_t6 (fact6_0) fact6_1) fact6_2) fact6_3) fact6_4) fact6_5) fact6_6) fact6_7) fact6_8) fact6_9) fact6_10) fact6_11) fact6_12) fact6_13) fact6_14) fact6_15) fact6_16) fact6_17) fact6_18) fact6_19) fact6_20) fact6_21) fact6_22) fact6_23) fact6_24) fact6_25) fact6_26) fact6_27) fact6_28) fact6_29) fact6_30) fact6_31
end Go.Proofs.YtdehaflkiobnlaaGreat
