/- A part of the proof of Rows.ShopBackSaid: what ShopBack answers, whatever the arguments; it stands under no condition. -/
import Derived.Test.YtdehaflkiobnlaaGreatBack16
set_option linter.unusedVariables false
set_option linter.unusedSimpArgs false
set_option linter.unusedSectionVars false
set_option linter.deprecated false
namespace Go.Fw
open Go Go.Proofs.Tryz
variable {I : CallRel}
/-! shop.Read -/
def zeroC : Cmd := ⟨0, [], [], 0, 0, 0, 0, 0, 0, false⟩
def nOf (s : Str) : Int := (rdN s).1
def cmdL : List Str → Cmd
  | [l0, l1, l2, l3, l4, l5, l6, l7, l8, l9] => ⟨nOf l0, l7, l8, nOf l1, nOf l2, nOf l3, nOf l4, nOf l5, nOf l6, decide (nOf l9 = 1)⟩
  | _ => zeroC
def readC (s : Str) : Cmd × Int :=
  if (rdRow s).2 = 0 ∧ (rdRow s).1.length = 10 ∧ textE (cmdL (rdRow s).1) = 0 ∧ textS (cmdL (rdRow s).1) = s then (cmdL (rdRow s).1, 0) else (zeroC, 5)
theorem cnt_le (s : Str) {m : Int} (h : 0 ≤ m) : (cnt s m).1 ≤ m := by
  unfold cnt
  simp only
  split
  · exact h
  · split
    · exact h
    · split
      · exact h
      · simp only; omega
theorem parts_len : ∀ (k : Nat) (s : Str), ∀ x ∈ (rdParts k s).1, x.length ≤ 4096
  | 0, s, x, hx => by simp [rdParts] at hx
  | k + 1, s, x, hx => by
    have hc := cnt_le s (m := 4096) (by omega)
    unfold rdParts at hx
    simp only at hx
    split at hx
    · simp at hx
    · split at hx
      · simp at hx
      · split at hx
        · simp at hx
        · rcases List.mem_cons.1 hx with h | h
          · subst h
            simp only [List.length_take]
            omega
          · exact parts_len k _ x h
theorem row_len (s : Str) : ∀ x ∈ (rdRow s).1, x.length ≤ 4096 := by
  intro x hx
  unfold rdRow at hx
  simp only at hx
  split at hx
  · simp at hx
  · split at hx
    · simp at hx
    · split at hx
      · simp at hx
      · exact parts_len _ _ x hx
theorem ten {l : List Str} (h : l.length = 10) : ∃ l0 l1 l2 l3 l4 l5 l6 l7 l8 l9, l = [l0, l1, l2, l3, l4, l5, l6, l7, l8, l9] := by
  match l, h with
  | [l0, l1, l2, l3, l4, l5, l6, l7, l8, l9], _ => exact ⟨l0, l1, l2, l3, l4, l5, l6, l7, l8, l9, rfl⟩
set_option maxRecDepth 100000 in
set_option maxHeartbeats 4000000 in
theorem Read33 (s : Str) (hs : s.length ≤ 1048576) : PCX I 33 [AV.str s] [] (.ret (.tup [.agg (readC s).1.cv, .one (.p (.v (vI (readC s).2)))])) [] := by
  refine pcall_intro func33 rfl rfl ?_
  conv => whnf
  refine wpCall_r (ReadRow113 s hs) ?_
  have hd : readC s = readC s := rfl
  conv at hd => lhs; unfold readC
  have hlen := row_len s
  generalize rdRow s = p at hd hlen
  obtain ⟨L, e⟩ := p
  simp only at hd hlen
  rw [← hd]
  conv => whnf
  refine wpB_c (fun h => ?_) (fun h => ?_)
  · have h : e ≠ 0 := by simpa using h
    rw [if_neg (fun hh => h hh.1)]
    conv => whnf
    exact retI rfl
  have h : e = 0 := by simpa using h
  subst h
  conv => whnf
  refine wpLen_i ?_
  conv => whnf
  refine wpB_c (fun h => ?_) (fun h => ?_)
  · have h : L.length ≠ 10 := by simp at h; omega
    rw [if_neg (fun hh => h hh.2.1)]
    conv => whnf
    exact retI rfl
  have h : L.length = 10 := by simp at h; omega
  obtain ⟨l0, l1, l2, l3, l4, l5, l6, l7, l8, l9, rfl⟩ := ten h
  let l8s : List Str := [l0, l1, l2, l3, l4, l5, l6, l9]
  conv => whnf
  refine wpRegS_i 4 [7] [4, 5, 6] rfl rfl ?_
  repeat' ((conv => whnf) <;> first
    | refine wpB_t rfl ?_
    | refine wpB_f rfl ?_
    | refine wpLen_i ?_
    | refine wpN_e (n := 0) rfl ?_
    | refine wpN_e (n := 1) rfl ?_
    | refine wpN_e (n := 2) rfl ?_
    | refine wpN_e (n := 3) rfl ?_
    | refine wpN_e (n := 4) rfl ?_
    | refine wpN_e (n := 5) rfl ?_
    | refine wpN_e (n := 6) rfl ?_
    | refine wpN_e (n := 7) rfl ?_
    | refine wpN_e (n := 8) rfl ?_
    | refine wpN_e (n := 9) rfl ?_
    | refine wpN_e (n := 10) rfl ?_
    | refine wpN_e (n := 11) rfl ?_
    | refine wpN_e (n := 12) rfl ?_
    | refine wpN_e (n := -1) rfl ?_
    | refine wpN_e (n := 100) rfl ?_
    | refine wpN_e (n := 1099511627776) rfl ?_
    | refine wpSide_i ⟨rfl, trivial⟩ ?_
    | refine wpSide_i trivial ?_
    | refine wpSide_i ⟨rfl, Nat.le_of_ble_eq_true rfl, Nat.le_of_ble_eq_true rfl⟩ ?_
    | refine wpSide_i ⟨rfl, rfl, Nat.le_of_ble_eq_true rfl, Nat.le_of_ble_eq_true rfl⟩ ?_
    | refine wpSide_i ⟨rfl, of_decide_eq_true rfl, of_decide_eq_true rfl⟩ ?_
    | refine wpSide_i ⟨of_decide_eq_true rfl, of_decide_eq_true rfl, of_decide_eq_true rfl, lens_of rfl⟩ ?_
    | refine wpSide_i ⟨of_decide_eq_true rfl, ⟨Nat.le_of_ble_eq_true rfl, Nat.le_of_ble_eq_true rfl⟩, Nat.le_of_ble_eq_true rfl⟩ ?_
    | refine wpSide_i ⟨lens_of rfl, rfl, Nat.le_of_ble_eq_true rfl, Nat.le_of_ble_eq_true rfl⟩ ?_
    | refine wpSide_i ⟨lens_of rfl, Nat.le_of_ble_eq_true rfl, Nat.le_of_ble_eq_true rfl⟩ ?_
    | refine wpSide_i rfl ?_
    | refine wpSide_i ⟨rfl, rfl⟩ ?_
    | refine wpSide_i (by decide) ?_
    | refine wpSide_i (by simp; done) ?_
    | refine wpSide_i (by constructor <;> decide) ?_
    | refine wpIdx_i (n := 0) rfl rfl rfl ?_
    | refine wpIdx_i (n := 1) rfl rfl rfl ?_
    | refine wpIdx_i (n := 2) rfl rfl rfl ?_
    | refine wpIdx_i (n := 3) rfl rfl rfl ?_
    | refine wpIdx_i (n := 4) rfl rfl rfl ?_
    | refine wpIdx_i (n := 5) rfl rfl rfl ?_
    | refine wpIdx_i (n := 6) rfl rfl rfl ?_
    | refine wpIdx_i (n := 7) rfl rfl rfl ?_
    | refine wpIdx_i (n := 8) rfl rfl rfl ?_
    | refine wpIdx_i (n := 9) rfl rfl rfl ?_
    | refine wpIdx_i (n := 10) rfl rfl rfl ?_
    | refine wpIdx_i (n := 11) rfl rfl rfl ?_
    | refine wpIdx_i (n := 12) rfl rfl rfl ?_
    | refine wpInl_i func112 rfl rfl ?_
    | refine wpInl_i func228 rfl rfl ?_
    | refine ⟨.inr ⟨.inr ?_⟩⟩
    | refine ⟨rfl, ?_⟩
    | refine ⟨_, rfl, ?_⟩
    | exact rfl)
  conv => whnf
  refine loop_unroll' ?_
  repeat' ((conv => whnf) <;> first
    | refine wpB_t rfl ?_
    | refine wpB_f rfl ?_
    | refine wpLen_i ?_
    | refine wpN_e (n := 0) rfl ?_
    | refine wpN_e (n := 1) rfl ?_
    | refine wpN_e (n := 2) rfl ?_
    | refine wpN_e (n := 3) rfl ?_
    | refine wpN_e (n := 4) rfl ?_
    | refine wpN_e (n := 5) rfl ?_
    | refine wpN_e (n := 6) rfl ?_
    | refine wpN_e (n := 7) rfl ?_
    | refine wpN_e (n := 8) rfl ?_
    | refine wpN_e (n := 9) rfl ?_
    | refine wpN_e (n := 10) rfl ?_
    | refine wpN_e (n := 11) rfl ?_
    | refine wpN_e (n := 12) rfl ?_
    | refine wpN_e (n := -1) rfl ?_
    | refine wpN_e (n := 100) rfl ?_
    | refine wpN_e (n := 1099511627776) rfl ?_
    | refine wpSide_i ⟨rfl, trivial⟩ ?_
    | refine wpSide_i trivial ?_
    | refine wpSide_i ⟨rfl, Nat.le_of_ble_eq_true rfl, Nat.le_of_ble_eq_true rfl⟩ ?_
    | refine wpSide_i ⟨rfl, rfl, Nat.le_of_ble_eq_true rfl, Nat.le_of_ble_eq_true rfl⟩ ?_
    | refine wpSide_i ⟨rfl, of_decide_eq_true rfl, of_decide_eq_true rfl⟩ ?_
    | refine wpSide_i ⟨of_decide_eq_true rfl, of_decide_eq_true rfl, of_decide_eq_true rfl, lens_of rfl⟩ ?_
    | refine wpSide_i ⟨of_decide_eq_true rfl, ⟨Nat.le_of_ble_eq_true rfl, Nat.le_of_ble_eq_true rfl⟩, Nat.le_of_ble_eq_true rfl⟩ ?_
    | refine wpSide_i ⟨lens_of rfl, rfl, Nat.le_of_ble_eq_true rfl, Nat.le_of_ble_eq_true rfl⟩ ?_
    | refine wpSide_i ⟨lens_of rfl, Nat.le_of_ble_eq_true rfl, Nat.le_of_ble_eq_true rfl⟩ ?_
    | refine wpSide_i rfl ?_
    | refine wpSide_i ⟨rfl, rfl⟩ ?_
    | refine wpSide_i (by decide) ?_
    | refine wpSide_i (by simp; done) ?_
    | refine wpSide_i (by constructor <;> decide) ?_
    | refine wpIdx_i (n := 0) rfl rfl rfl ?_
    | refine wpIdx_i (n := 1) rfl rfl rfl ?_
    | refine wpIdx_i (n := 2) rfl rfl rfl ?_
    | refine wpIdx_i (n := 3) rfl rfl rfl ?_
    | refine wpIdx_i (n := 4) rfl rfl rfl ?_
    | refine wpIdx_i (n := 5) rfl rfl rfl ?_
    | refine wpIdx_i (n := 6) rfl rfl rfl ?_
    | refine wpIdx_i (n := 7) rfl rfl rfl ?_
    | refine wpIdx_i (n := 8) rfl rfl rfl ?_
    | refine wpIdx_i (n := 9) rfl rfl rfl ?_
    | refine wpIdx_i (n := 10) rfl rfl rfl ?_
    | refine wpIdx_i (n := 11) rfl rfl rfl ?_
    | refine wpIdx_i (n := 12) rfl rfl rfl ?_
    | refine wpInl_i func112 rfl rfl ?_
    | refine wpInl_i func228 rfl rfl ?_
    | refine ⟨.inr ⟨.inr ?_⟩⟩
    | refine ⟨rfl, ?_⟩
    | refine ⟨_, rfl, ?_⟩
    | exact rfl)
  conv => whnf
  refine loop_unroll' ?_
  repeat' ((conv => whnf) <;> first
    | refine wpB_t rfl ?_
    | refine wpB_f rfl ?_
    | refine wpLen_i ?_
    | refine wpN_e (n := 0) rfl ?_
    | refine wpN_e (n := 1) rfl ?_
    | refine wpN_e (n := 2) rfl ?_
    | refine wpN_e (n := 3) rfl ?_
    | refine wpN_e (n := 4) rfl ?_
    | refine wpN_e (n := 5) rfl ?_
    | refine wpN_e (n := 6) rfl ?_
    | refine wpN_e (n := 7) rfl ?_
    | refine wpN_e (n := 8) rfl ?_
    | refine wpN_e (n := 9) rfl ?_
    | refine wpN_e (n := 10) rfl ?_
    | refine wpN_e (n := 11) rfl ?_
    | refine wpN_e (n := 12) rfl ?_
    | refine wpN_e (n := -1) rfl ?_
    | refine wpN_e (n := 100) rfl ?_
    | refine wpN_e (n := 1099511627776) rfl ?_
    | refine wpSide_i ⟨rfl, trivial⟩ ?_
    | refine wpSide_i trivial ?_
    | refine wpSide_i ⟨rfl, Nat.le_of_ble_eq_true rfl, Nat.le_of_ble_eq_true rfl⟩ ?_
    | refine wpSide_i ⟨rfl, rfl, Nat.le_of_ble_eq_true rfl, Nat.le_of_ble_eq_true rfl⟩ ?_
    | refine wpSide_i ⟨rfl, of_decide_eq_true rfl, of_decide_eq_true rfl⟩ ?_
    | refine wpSide_i ⟨of_decide_eq_true rfl, of_decide_eq_true rfl, of_decide_eq_true rfl, lens_of rfl⟩ ?_
    | refine wpSide_i ⟨of_decide_eq_true rfl, ⟨Nat.le_of_ble_eq_true rfl, Nat.le_of_ble_eq_true rfl⟩, Nat.le_of_ble_eq_true rfl⟩ ?_
    | refine wpSide_i ⟨lens_of rfl, rfl, Nat.le_of_ble_eq_true rfl, Nat.le_of_ble_eq_true rfl⟩ ?_
    | refine wpSide_i ⟨lens_of rfl, Nat.le_of_ble_eq_true rfl, Nat.le_of_ble_eq_true rfl⟩ ?_
    | refine wpSide_i rfl ?_
    | refine wpSide_i ⟨rfl, rfl⟩ ?_
    | refine wpSide_i (by decide) ?_
    | refine wpSide_i (by simp; done) ?_
    | refine wpSide_i (by constructor <;> decide) ?_
    | refine wpIdx_i (n := 0) rfl rfl rfl ?_
    | refine wpIdx_i (n := 1) rfl rfl rfl ?_
    | refine wpIdx_i (n := 2) rfl rfl rfl ?_
    | refine wpIdx_i (n := 3) rfl rfl rfl ?_
    | refine wpIdx_i (n := 4) rfl rfl rfl ?_
    | refine wpIdx_i (n := 5) rfl rfl rfl ?_
    | refine wpIdx_i (n := 6) rfl rfl rfl ?_
    | refine wpIdx_i (n := 7) rfl rfl rfl ?_
    | refine wpIdx_i (n := 8) rfl rfl rfl ?_
    | refine wpIdx_i (n := 9) rfl rfl rfl ?_
    | refine wpIdx_i (n := 10) rfl rfl rfl ?_
    | refine wpIdx_i (n := 11) rfl rfl rfl ?_
    | refine wpIdx_i (n := 12) rfl rfl rfl ?_
    | refine wpInl_i func112 rfl rfl ?_
    | refine wpInl_i func228 rfl rfl ?_
    | refine ⟨.inr ⟨.inr ?_⟩⟩
    | refine ⟨rfl, ?_⟩
    | refine ⟨_, rfl, ?_⟩
    | exact rfl)
  conv => whnf
  refine loop_unroll' ?_
  repeat' ((conv => whnf) <;> first
    | refine wpB_t rfl ?_
    | refine wpB_f rfl ?_
    | refine wpLen_i ?_
    | refine wpN_e (n := 0) rfl ?_
    | refine wpN_e (n := 1) rfl ?_
    | refine wpN_e (n := 2) rfl ?_
    | refine wpN_e (n := 3) rfl ?_
    | refine wpN_e (n := 4) rfl ?_
    | refine wpN_e (n := 5) rfl ?_
    | refine wpN_e (n := 6) rfl ?_
    | refine wpN_e (n := 7) rfl ?_
    | refine wpN_e (n := 8) rfl ?_
    | refine wpN_e (n := 9) rfl ?_
    | refine wpN_e (n := 10) rfl ?_
    | refine wpN_e (n := 11) rfl ?_
    | refine wpN_e (n := 12) rfl ?_
    | refine wpN_e (n := -1) rfl ?_
    | refine wpN_e (n := 100) rfl ?_
    | refine wpN_e (n := 1099511627776) rfl ?_
    | refine wpSide_i ⟨rfl, trivial⟩ ?_
    | refine wpSide_i trivial ?_
    | refine wpSide_i ⟨rfl, Nat.le_of_ble_eq_true rfl, Nat.le_of_ble_eq_true rfl⟩ ?_
    | refine wpSide_i ⟨rfl, rfl, Nat.le_of_ble_eq_true rfl, Nat.le_of_ble_eq_true rfl⟩ ?_
    | refine wpSide_i ⟨rfl, of_decide_eq_true rfl, of_decide_eq_true rfl⟩ ?_
    | refine wpSide_i ⟨of_decide_eq_true rfl, of_decide_eq_true rfl, of_decide_eq_true rfl, lens_of rfl⟩ ?_
    | refine wpSide_i ⟨of_decide_eq_true rfl, ⟨Nat.le_of_ble_eq_true rfl, Nat.le_of_ble_eq_true rfl⟩, Nat.le_of_ble_eq_true rfl⟩ ?_
    | refine wpSide_i ⟨lens_of rfl, rfl, Nat.le_of_ble_eq_true rfl, Nat.le_of_ble_eq_true rfl⟩ ?_
    | refine wpSide_i ⟨lens_of rfl, Nat.le_of_ble_eq_true rfl, Nat.le_of_ble_eq_true rfl⟩ ?_
    | refine wpSide_i rfl ?_
    | refine wpSide_i ⟨rfl, rfl⟩ ?_
    | refine wpSide_i (by decide) ?_
    | refine wpSide_i (by simp; done) ?_
    | refine wpSide_i (by constructor <;> decide) ?_
    | refine wpIdx_i (n := 0) rfl rfl rfl ?_
    | refine wpIdx_i (n := 1) rfl rfl rfl ?_
    | refine wpIdx_i (n := 2) rfl rfl rfl ?_
    | refine wpIdx_i (n := 3) rfl rfl rfl ?_
    | refine wpIdx_i (n := 4) rfl rfl rfl ?_
    | refine wpIdx_i (n := 5) rfl rfl rfl ?_
    | refine wpIdx_i (n := 6) rfl rfl rfl ?_
    | refine wpIdx_i (n := 7) rfl rfl rfl ?_
    | refine wpIdx_i (n := 8) rfl rfl rfl ?_
    | refine wpIdx_i (n := 9) rfl rfl rfl ?_
    | refine wpIdx_i (n := 10) rfl rfl rfl ?_
    | refine wpIdx_i (n := 11) rfl rfl rfl ?_
    | refine wpIdx_i (n := 12) rfl rfl rfl ?_
    | refine wpInl_i func112 rfl rfl ?_
    | refine wpInl_i func228 rfl rfl ?_
    | refine ⟨.inr ⟨.inr ?_⟩⟩
    | refine ⟨rfl, ?_⟩
    | refine ⟨_, rfl, ?_⟩
    | exact rfl)
  conv => whnf
  refine loop_unroll' ?_
  repeat' ((conv => whnf) <;> first
    | refine wpB_t rfl ?_
    | refine wpB_f rfl ?_
    | refine wpLen_i ?_
    | refine wpN_e (n := 0) rfl ?_
    | refine wpN_e (n := 1) rfl ?_
    | refine wpN_e (n := 2) rfl ?_
    | refine wpN_e (n := 3) rfl ?_
    | refine wpN_e (n := 4) rfl ?_
    | refine wpN_e (n := 5) rfl ?_
    | refine wpN_e (n := 6) rfl ?_
    | refine wpN_e (n := 7) rfl ?_
    | refine wpN_e (n := 8) rfl ?_
    | refine wpN_e (n := 9) rfl ?_
    | refine wpN_e (n := 10) rfl ?_
    | refine wpN_e (n := 11) rfl ?_
    | refine wpN_e (n := 12) rfl ?_
    | refine wpN_e (n := -1) rfl ?_
    | refine wpN_e (n := 100) rfl ?_
    | refine wpN_e (n := 1099511627776) rfl ?_
    | refine wpSide_i ⟨rfl, trivial⟩ ?_
    | refine wpSide_i trivial ?_
    | refine wpSide_i ⟨rfl, Nat.le_of_ble_eq_true rfl, Nat.le_of_ble_eq_true rfl⟩ ?_
    | refine wpSide_i ⟨rfl, rfl, Nat.le_of_ble_eq_true rfl, Nat.le_of_ble_eq_true rfl⟩ ?_
    | refine wpSide_i ⟨rfl, of_decide_eq_true rfl, of_decide_eq_true rfl⟩ ?_
    | refine wpSide_i ⟨of_decide_eq_true rfl, of_decide_eq_true rfl, of_decide_eq_true rfl, lens_of rfl⟩ ?_
    | refine wpSide_i ⟨of_decide_eq_true rfl, ⟨Nat.le_of_ble_eq_true rfl, Nat.le_of_ble_eq_true rfl⟩, Nat.le_of_ble_eq_true rfl⟩ ?_
    | refine wpSide_i ⟨lens_of rfl, rfl, Nat.le_of_ble_eq_true rfl, Nat.le_of_ble_eq_true rfl⟩ ?_
    | refine wpSide_i ⟨lens_of rfl, Nat.le_of_ble_eq_true rfl, Nat.le_of_ble_eq_true rfl⟩ ?_
    | refine wpSide_i rfl ?_
    | refine wpSide_i ⟨rfl, rfl⟩ ?_
    | refine wpSide_i (by decide) ?_
    | refine wpSide_i (by simp; done) ?_
    | refine wpSide_i (by constructor <;> decide) ?_
    | refine wpIdx_i (n := 0) rfl rfl rfl ?_
    | refine wpIdx_i (n := 1) rfl rfl rfl ?_
    | refine wpIdx_i (n := 2) rfl rfl rfl ?_
    | refine wpIdx_i (n := 3) rfl rfl rfl ?_
    | refine wpIdx_i (n := 4) rfl rfl rfl ?_
    | refine wpIdx_i (n := 5) rfl rfl rfl ?_
    | refine wpIdx_i (n := 6) rfl rfl rfl ?_
    | refine wpIdx_i (n := 7) rfl rfl rfl ?_
    | refine wpIdx_i (n := 8) rfl rfl rfl ?_
    | refine wpIdx_i (n := 9) rfl rfl rfl ?_
    | refine wpIdx_i (n := 10) rfl rfl rfl ?_
    | refine wpIdx_i (n := 11) rfl rfl rfl ?_
    | refine wpIdx_i (n := 12) rfl rfl rfl ?_
    | refine wpInl_i func112 rfl rfl ?_
    | refine wpInl_i func228 rfl rfl ?_
    | refine ⟨.inr ⟨.inr ?_⟩⟩
    | refine ⟨rfl, ?_⟩
    | refine ⟨_, rfl, ?_⟩
    | exact rfl)
  conv => whnf
  refine loop_unroll' ?_
  repeat' ((conv => whnf) <;> first
    | refine wpB_t rfl ?_
    | refine wpB_f rfl ?_
    | refine wpLen_i ?_
    | refine wpN_e (n := 0) rfl ?_
    | refine wpN_e (n := 1) rfl ?_
    | refine wpN_e (n := 2) rfl ?_
    | refine wpN_e (n := 3) rfl ?_
    | refine wpN_e (n := 4) rfl ?_
    | refine wpN_e (n := 5) rfl ?_
    | refine wpN_e (n := 6) rfl ?_
    | refine wpN_e (n := 7) rfl ?_
    | refine wpN_e (n := 8) rfl ?_
    | refine wpN_e (n := 9) rfl ?_
    | refine wpN_e (n := 10) rfl ?_
    | refine wpN_e (n := 11) rfl ?_
    | refine wpN_e (n := 12) rfl ?_
    | refine wpN_e (n := -1) rfl ?_
    | refine wpN_e (n := 100) rfl ?_
    | refine wpN_e (n := 1099511627776) rfl ?_
    | refine wpSide_i ⟨rfl, trivial⟩ ?_
    | refine wpSide_i trivial ?_
    | refine wpSide_i ⟨rfl, Nat.le_of_ble_eq_true rfl, Nat.le_of_ble_eq_true rfl⟩ ?_
    | refine wpSide_i ⟨rfl, rfl, Nat.le_of_ble_eq_true rfl, Nat.le_of_ble_eq_true rfl⟩ ?_
    | refine wpSide_i ⟨rfl, of_decide_eq_true rfl, of_decide_eq_true rfl⟩ ?_
    | refine wpSide_i ⟨of_decide_eq_true rfl, of_decide_eq_true rfl, of_decide_eq_true rfl, lens_of rfl⟩ ?_
    | refine wpSide_i ⟨of_decide_eq_true rfl, ⟨Nat.le_of_ble_eq_true rfl, Nat.le_of_ble_eq_true rfl⟩, Nat.le_of_ble_eq_true rfl⟩ ?_
    | refine wpSide_i ⟨lens_of rfl, rfl, Nat.le_of_ble_eq_true rfl, Nat.le_of_ble_eq_true rfl⟩ ?_
    | refine wpSide_i ⟨lens_of rfl, Nat.le_of_ble_eq_true rfl, Nat.le_of_ble_eq_true rfl⟩ ?_
    | refine wpSide_i rfl ?_
    | refine wpSide_i ⟨rfl, rfl⟩ ?_
    | refine wpSide_i (by decide) ?_
    | refine wpSide_i (by simp; done) ?_
    | refine wpSide_i (by constructor <;> decide) ?_
    | refine wpIdx_i (n := 0) rfl rfl rfl ?_
    | refine wpIdx_i (n := 1) rfl rfl rfl ?_
    | refine wpIdx_i (n := 2) rfl rfl rfl ?_
    | refine wpIdx_i (n := 3) rfl rfl rfl ?_
    | refine wpIdx_i (n := 4) rfl rfl rfl ?_
    | refine wpIdx_i (n := 5) rfl rfl rfl ?_
    | refine wpIdx_i (n := 6) rfl rfl rfl ?_
    | refine wpIdx_i (n := 7) rfl rfl rfl ?_
    | refine wpIdx_i (n := 8) rfl rfl rfl ?_
    | refine wpIdx_i (n := 9) rfl rfl rfl ?_
    | refine wpIdx_i (n := 10) rfl rfl rfl ?_
    | refine wpIdx_i (n := 11) rfl rfl rfl ?_
    | refine wpIdx_i (n := 12) rfl rfl rfl ?_
    | refine wpInl_i func112 rfl rfl ?_
    | refine wpInl_i func228 rfl rfl ?_
    | refine ⟨.inr ⟨.inr ?_⟩⟩
    | refine ⟨rfl, ?_⟩
    | refine ⟨_, rfl, ?_⟩
    | exact rfl)
  conv => whnf
  refine loop_unroll' ?_
  repeat' ((conv => whnf) <;> first
    | refine wpB_t rfl ?_
    | refine wpB_f rfl ?_
    | refine wpLen_i ?_
    | refine wpN_e (n := 0) rfl ?_
    | refine wpN_e (n := 1) rfl ?_
    | refine wpN_e (n := 2) rfl ?_
    | refine wpN_e (n := 3) rfl ?_
    | refine wpN_e (n := 4) rfl ?_
    | refine wpN_e (n := 5) rfl ?_
    | refine wpN_e (n := 6) rfl ?_
    | refine wpN_e (n := 7) rfl ?_
    | refine wpN_e (n := 8) rfl ?_
    | refine wpN_e (n := 9) rfl ?_
    | refine wpN_e (n := 10) rfl ?_
    | refine wpN_e (n := 11) rfl ?_
    | refine wpN_e (n := 12) rfl ?_
    | refine wpN_e (n := -1) rfl ?_
    | refine wpN_e (n := 100) rfl ?_
    | refine wpN_e (n := 1099511627776) rfl ?_
    | refine wpSide_i ⟨rfl, trivial⟩ ?_
    | refine wpSide_i trivial ?_
    | refine wpSide_i ⟨rfl, Nat.le_of_ble_eq_true rfl, Nat.le_of_ble_eq_true rfl⟩ ?_
    | refine wpSide_i ⟨rfl, rfl, Nat.le_of_ble_eq_true rfl, Nat.le_of_ble_eq_true rfl⟩ ?_
    | refine wpSide_i ⟨rfl, of_decide_eq_true rfl, of_decide_eq_true rfl⟩ ?_
    | refine wpSide_i ⟨of_decide_eq_true rfl, of_decide_eq_true rfl, of_decide_eq_true rfl, lens_of rfl⟩ ?_
    | refine wpSide_i ⟨of_decide_eq_true rfl, ⟨Nat.le_of_ble_eq_true rfl, Nat.le_of_ble_eq_true rfl⟩, Nat.le_of_ble_eq_true rfl⟩ ?_
    | refine wpSide_i ⟨lens_of rfl, rfl, Nat.le_of_ble_eq_true rfl, Nat.le_of_ble_eq_true rfl⟩ ?_
    | refine wpSide_i ⟨lens_of rfl, Nat.le_of_ble_eq_true rfl, Nat.le_of_ble_eq_true rfl⟩ ?_
    | refine wpSide_i rfl ?_
    | refine wpSide_i ⟨rfl, rfl⟩ ?_
    | refine wpSide_i (by decide) ?_
    | refine wpSide_i (by simp; done) ?_
    | refine wpSide_i (by constructor <;> decide) ?_
    | refine wpIdx_i (n := 0) rfl rfl rfl ?_
    | refine wpIdx_i (n := 1) rfl rfl rfl ?_
    | refine wpIdx_i (n := 2) rfl rfl rfl ?_
    | refine wpIdx_i (n := 3) rfl rfl rfl ?_
    | refine wpIdx_i (n := 4) rfl rfl rfl ?_
    | refine wpIdx_i (n := 5) rfl rfl rfl ?_
    | refine wpIdx_i (n := 6) rfl rfl rfl ?_
    | refine wpIdx_i (n := 7) rfl rfl rfl ?_
    | refine wpIdx_i (n := 8) rfl rfl rfl ?_
    | refine wpIdx_i (n := 9) rfl rfl rfl ?_
    | refine wpIdx_i (n := 10) rfl rfl rfl ?_
    | refine wpIdx_i (n := 11) rfl rfl rfl ?_
    | refine wpIdx_i (n := 12) rfl rfl rfl ?_
    | refine wpInl_i func112 rfl rfl ?_
    | refine wpInl_i func228 rfl rfl ?_
    | refine ⟨.inr ⟨.inr ?_⟩⟩
    | refine ⟨rfl, ?_⟩
    | refine ⟨_, rfl, ?_⟩
    | exact rfl)
  conv => whnf
  refine loop_rule (fun i : Nat => mkS [(0, .str s), (2, .one (.ptr 0 0)), (4, .one (.p (.sl (strs [l0, l1, l2, l3, l4, l5, l6, l7, l8, l9])))), (6, .one (.ref 4 i)), (33, .one (.ref 3 8)), (34, .int 8), (35, .int i)]
    [(0, .vars zeroC.cv), (3, .vec 9 (l8s.map sE) false), (4, .vec 3 ((l8s.take i).map fun s => iE (nOf s)) false)] 5 96 0) (fun i => i ≤ 8) (fun i => 8 - i) 0 ?_ ?_ ?_
  · exact le_mkS ⟨.inl ⟨rfl, rfl⟩, .inl ⟨rfl, rfl⟩, .inl ⟨rfl, rfl⟩, .inr ⟨4, rfl, newT rfl rfl rfl (Nat.zero_lt_succ _)⟩, .inl ⟨rfl, rfl⟩, .inl ⟨rfl, rfl⟩, .inl ⟨rfl, rfl⟩, trivial⟩ ⟨.inl ⟨rfl, rfl⟩, .inl ⟨rfl, rfl⟩, .inr ⟨rfl, _, rfl, Nat.zero_lt_succ _⟩, trivial⟩ rfl rfl
  · simp
  · intro i hi next hnext
    conv => whnf
    refine wpB_c (fun h1 => ?_) (fun h1 => ?_)
    · have hlt : i < l8s.length := by simp at h1; show i < 8; omega
      obtain ⟨x, hx⟩ := get_lt hlt
      have hlt8 : i < 8 := hlt
      have hxl : x.length ≤ 4096 := by
        have := List.mem_of_getElem? hx
        refine hlen x ?_
        simp only [l8s, List.mem_cons, List.not_mem_nil, or_false] at this ⊢
        rcases this with h | h | h | h | h | h | h | h <;> simp [h]
      conv => whnf
      refine wpSide_i ⟨rfl, by omega, by show (i : Int) < 8; omega⟩ ?_
      conv => whnf
      refine wpSide_i rfl (wpIdx_i (n := i) rfl (get_map sE hx) rfl ?_)
      conv => whnf
      refine wpCall_r (ReadNumber114 x (by omega)) ?_
      conv => whnf
      have htl : ((l8s.take i).map fun s => iE (nOf s)).length = i := by simp only [List.length_map, List.length_take]; omega
      refine wpSide_i ⟨rfl, htl, (by show (i + 1) * 8 ≤ 140737488355328; omega), (by show i + 1 ≤ 140737488355328; omega)⟩ ?_
      conv => whnf
      refine wpN_succ hlt8 (by omega) ?_
      refine hnext (i + 1) _ hlt8 (by omega) ?_
      have e2 : ((l8s.take (i + 1)).map fun s => iE (nOf s)) = ((l8s.take i).map fun s => iE (nOf s)) ++ [iE (nOf x)] := by rw [take_get hx, List.map_append]; rfl
      rw [e2]
      exact le_mkS ⟨.inl ⟨rfl, rfl⟩, .inl ⟨rfl, rfl⟩, .inl ⟨rfl, rfl⟩, .inl ⟨rfl, rfl⟩, .inl ⟨rfl, rfl⟩, .inl ⟨rfl, rfl⟩, .inl ⟨rfl, rfl⟩, trivial⟩ ⟨.inl ⟨rfl, rfl⟩, .inl ⟨rfl, rfl⟩, .inl ⟨rfl, rfl⟩, trivial⟩ rfl rfl
    · have : i = 8 := by simp at h1; omega
      subst this
      conv => whnf
      refine wpRegD_i rfl ?_
      show wpDr _ _ _ _ _ (_ :: _) _ _ _ _
      unfold wpDr
      repeat' ((conv => whnf) <;> first
        | refine wpB_t rfl ?_
        | refine wpB_f rfl ?_
        | refine wpLen_i ?_
        | refine wpN_e (n := 0) rfl ?_
        | refine wpN_e (n := 1) rfl ?_
        | refine wpN_e (n := 2) rfl ?_
        | refine wpN_e (n := 3) rfl ?_
        | refine wpN_e (n := 4) rfl ?_
        | refine wpN_e (n := 5) rfl ?_
        | refine wpN_e (n := 6) rfl ?_
        | refine wpN_e (n := 7) rfl ?_
        | refine wpN_e (n := 8) rfl ?_
        | refine wpN_e (n := 9) rfl ?_
        | refine wpN_e (n := 10) rfl ?_
        | refine wpN_e (n := 11) rfl ?_
        | refine wpN_e (n := 12) rfl ?_
        | refine wpN_e (n := -1) rfl ?_
        | refine wpN_e (n := 100) rfl ?_
        | refine wpN_e (n := 1099511627776) rfl ?_
        | refine wpB_i ?_
        | refine wpSide_i ⟨rfl, trivial⟩ ?_
        | refine wpSide_i trivial ?_
        | refine wpSide_i ⟨rfl, Nat.le_of_ble_eq_true rfl, Nat.le_of_ble_eq_true rfl⟩ ?_
        | refine wpSide_i ⟨rfl, rfl, Nat.le_of_ble_eq_true rfl, Nat.le_of_ble_eq_true rfl⟩ ?_
        | refine wpSide_i ⟨rfl, of_decide_eq_true rfl, of_decide_eq_true rfl⟩ ?_
        | refine wpSide_i ⟨of_decide_eq_true rfl, of_decide_eq_true rfl, of_decide_eq_true rfl, lens_of rfl⟩ ?_
        | refine wpSide_i ⟨of_decide_eq_true rfl, ⟨Nat.le_of_ble_eq_true rfl, Nat.le_of_ble_eq_true rfl⟩, Nat.le_of_ble_eq_true rfl⟩ ?_
        | refine wpSide_i ⟨lens_of rfl, rfl, Nat.le_of_ble_eq_true rfl, Nat.le_of_ble_eq_true rfl⟩ ?_
        | refine wpSide_i ⟨lens_of rfl, Nat.le_of_ble_eq_true rfl, Nat.le_of_ble_eq_true rfl⟩ ?_
        | refine wpSide_i rfl ?_
        | refine wpSide_i ⟨rfl, rfl⟩ ?_
        | refine wpSide_i (by decide) ?_
        | refine wpSide_i (by simp; done) ?_
        | refine wpSide_i (by constructor <;> decide) ?_
        | refine wpIdx_i (n := 0) rfl rfl rfl ?_
        | refine wpIdx_i (n := 1) rfl rfl rfl ?_
        | refine wpIdx_i (n := 2) rfl rfl rfl ?_
        | refine wpIdx_i (n := 3) rfl rfl rfl ?_
        | refine wpIdx_i (n := 4) rfl rfl rfl ?_
        | refine wpIdx_i (n := 5) rfl rfl rfl ?_
        | refine wpIdx_i (n := 6) rfl rfl rfl ?_
        | refine wpIdx_i (n := 7) rfl rfl rfl ?_
        | refine wpIdx_i (n := 8) rfl rfl rfl ?_
        | refine wpIdx_i (n := 9) rfl rfl rfl ?_
        | refine wpIdx_i (n := 10) rfl rfl rfl ?_
        | refine wpIdx_i (n := 11) rfl rfl rfl ?_
        | refine wpIdx_i (n := 12) rfl rfl rfl ?_
        | refine wpInl_i func112 rfl rfl ?_
        | refine wpInl_i func228 rfl rfl ?_
        | refine ⟨.inr ⟨.inr ?_⟩⟩
        | refine ⟨rfl, ?_⟩
        | refine ⟨_, rfl, ?_⟩
        | exact rfl)
      conv => whnf
      let L10 : List Str := [l0, l1, l2, l3, l4, l5, l6, l7, l8, l9]
      refine wpCall_r (Text32 (cmdL L10)) ?_
      conv => whnf
      refine wpB_c (fun h2 => ?_) (fun h2 => ?_)
      · have h2 : textE (cmdL L10) ≠ 0 := by simpa using h2
        rw [if_neg (fun hh => h2 hh.2.2.1)]
        conv => whnf
        exact retI rfl
      · have h2 : textE (cmdL L10) = 0 := by simpa using h2
        conv => whnf
        refine wpB_c (fun h3 => ?_) (fun h3 => ?_)
        · have h3 : textS (cmdL L10) ≠ s := by simpa using h3
          rw [if_neg (fun hh => h3 hh.2.2.2)]
          conv => whnf
          exact retI rfl
        · have h3 : textS (cmdL L10) = s := by simpa using h3
          rw [if_pos ⟨rfl, rfl, h2, h3⟩]
          conv => whnf
          exact retI rfl
end Go.Fw
