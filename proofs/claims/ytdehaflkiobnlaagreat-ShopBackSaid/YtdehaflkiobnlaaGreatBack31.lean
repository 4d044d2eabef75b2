/- A part of the proof of Rows.ShopBackSaid: what ShopBack answers, whatever the arguments; it stands under no condition. -/
import Derived.Test.YtdehaflkiobnlaaGreatBack22
import Derived.Test.YtdehaflkiobnlaaGreatBack23
import Derived.Test.YtdehaflkiobnlaaGreatBack24
import Derived.Test.YtdehaflkiobnlaaGreatBack25
import Derived.Test.YtdehaflkiobnlaaGreatBack26
import Derived.Test.YtdehaflkiobnlaaGreatBack27
import Derived.Test.YtdehaflkiobnlaaGreatBack28
import Derived.Test.YtdehaflkiobnlaaGreatBack29
import Derived.Test.YtdehaflkiobnlaaGreatBack30
set_option linter.unusedVariables false
set_option linter.unusedSimpArgs false
set_option linter.unusedSectionVars false
set_option linter.deprecated false
namespace Go.Proofs.YtdehaflkiobnlaaGreat
open Go.ChangeShapes Go.WideShapes Go.ChangeAt Go.RowKit
theorem and_t7 {a b : Bool} (ha : a = true) (hb : b = true) : (a && b) = true := by rw [ha, hb]; rfl
set_option maxRecDepth 100000 in
theorem closed7 : joinedFacts Tryz.prog 7 Tryz.f7 Rows.shopBackSpec Rows.shopBackRow = true := by
  unfold joinedFacts
  exact and_t7 (and_t7 (and_t7 (and_t7 (and_t7 (and_t7 (and_t7 (and_t7 (and_t7 (and_t7 (and_t7 (and_t7 (and_t7 (and_t7 (and_t7 (and_t7 (and_t7 (and_t7 (and_t7 (and_t7 (and_t7 (and_t7 (and_t7 (and_t7 (and_t7 (and_t7 (and_t7 (and_t7 (and_t7 (and_t7 (and_t7 (fact7_0) fact7_1) fact7_2) fact7_3) fact7_4) fact7_5) fact7_6) fact7_7) fact7_8) fact7_9) fact7_10) fact7_11) fact7_12) fact7_13) fact7_14) fact7_15) fact7_16) fact7_17) fact7_18) fact7_19) fact7_20) fact7_21) fact7_22) fact7_23) fact7_24) fact7_25) fact7_26) fact7_27) fact7_28) fact7_29) fact7_30) fact7_31
end Go.Proofs.YtdehaflkiobnlaaGreat
