/- A part of the proof of Rows.ShopBackSaid: what ShopBack answers, whatever the arguments; it stands under no condition. -/
import Derived.Test.YtdehaflkiobnlaaGreatBack15
set_option linter.unusedVariables false
set_option linter.unusedSimpArgs false
set_option linter.unusedSectionVars false
set_option linter.deprecated false
namespace Go.Fw
open Go Go.Proofs.Tryz
variable {I : CallRel}
/-! shop.Text -/
def yesN (y : Bool) : Int := bif y then 1 else 0
def textL (c : Cmd) : List Str := [numS c.kind, numS c.a, numS c.b, numS c.c, numS c.d, numS c.e, numS c.f, c.sku, c.to, numS (yesN c.yes)]
def textS (c : Cmd) : Str := bif shopRight c then rowS (textL c) else []
def textE (c : Cmd) : Int := bif shopRight c then 0 else 1
abbrev Cmd.cv (c : Cmd) : List Cell := [.p (.v (vI c.kind)), .p (.v (vS c.sku)), .p (.v (vS c.to)), .p (.v (vI c.a)), .p (.v (vI c.b)), .p (.v (vI c.c)), .p (.v (vI c.d)), .p (.v (vI c.e)), .p (.v (vI c.f)), .p (.v (.bool c.yes))]
theorem mayF_len {f s : Str} {r : Int} (h : mayF f r s = true) : s.length ≤ 16 := by
  unfold mayF at h
  cases hr : hasR f r with
  | true =>
    rw [hr] at h
    simp [nameOK] at h
    exact h.2.1
  | false =>
    rw [hr] at h
    simp at h
    simp [h]
theorem right_len {c : Cmd} (h : shopRight c = true) : c.sku.length ≤ 16 ∧ c.to.length ≤ 16 := by
  simp only [shopRight, Bool.and_eq_true] at h
  exact ⟨mayF_len h.2.2.2.1, mayF_len h.2.2.2.2.1⟩
theorem textL_may {c : Cmd} (h : shopRight c = true) : (∀ s ∈ textL c, s.length ≤ 4096) ∧ rowE (textL c) = 0 := by
  have h1 := right_len h
  have h0 : ∀ s ∈ textL c, s.length ≤ 4096 := by
    intro s hs
    simp only [textL, List.mem_cons, List.not_mem_nil, or_false] at hs
    have hn := fun n : Int => numS_len n
    rcases hs with rfl | rfl | rfl | rfl | rfl | rfl | rfl | rfl | rfl | rfl <;> first | exact Nat.le_trans (hn _) (by omega) | omega
  refine ⟨h0, ?_⟩
  have h2 : rowMay (textL c) = true := by
    unfold rowMay
    rw [Bool.and_eq_true]
    exact ⟨List.all_eq_true.2 fun s hs => by simpa using h0 s hs, rfl⟩
  rw [rowE, if_pos h2]
set_option maxRecDepth 100000 in
set_option maxHeartbeats 4000000 in
theorem Text32 (c : Cmd) : PCX I 32 [c.av] [] (.ret (.tup [.one (.p (.v (vS (textS c)))), .one (.p (.v (vI (textE c))))])) [] := by
  refine pcall_intro func32 rfl rfl ?_
  conv => whnf
  refine wpCall_b (Right35 c) (fun h => ?_) (fun h => ?_)
  · have hl8 : ∃ y, c.yes = y := ⟨_, rfl⟩
    obtain ⟨y, hy⟩ := hl8
    rw [hy]
    cases y
    · let l8 : List Int := [c.kind, c.a, c.b, c.c, c.d, c.e, c.f, 0]
      let L10 : List Str := [numS c.kind, numS c.a, numS c.b, numS c.c, numS c.d, numS c.e, numS c.f, c.sku, c.to, numS 0]
      conv => whnf
      refine wpRegD_i rfl ?_
      repeat' ((conv => whnf) <;> first
        | refine wpB_t rfl ?_
        | refine wpB_f rfl ?_
        | refine wpLen_i ?_
        | refine wpN_e (n := 0) rfl ?_
        | refine wpN_e (n := 1) rfl ?_
        | refine wpN_e (n := 2) rfl ?_
        | refine wpN_e (n := 3) rfl ?_
        | refine wpN_e (n := 4) rfl ?_
        | refine wpN_e (n := 5) rfl ?_
        | refine wpN_e (n := 6) rfl ?_
        | refine wpN_e (n := 7) rfl ?_
        | refine wpN_e (n := 8) rfl ?_
        | refine wpN_e (n := 9) rfl ?_
        | refine wpN_e (n := 10) rfl ?_
        | refine wpN_e (n := 11) rfl ?_
        | refine wpN_e (n := 12) rfl ?_
        | refine wpN_e (n := -1) rfl ?_
        | refine wpN_e (n := 100) rfl ?_
        | refine wpN_e (n := 1099511627776) rfl ?_
        | refine wpSide_i ⟨rfl, trivial⟩ ?_
        | refine wpSide_i trivial ?_
        | refine wpSide_i ⟨rfl, Nat.le_of_ble_eq_true rfl, Nat.le_of_ble_eq_true rfl⟩ ?_
        | refine wpSide_i ⟨rfl, rfl, Nat.le_of_ble_eq_true rfl, Nat.le_of_ble_eq_true rfl⟩ ?_
        | refine wpSide_i ⟨rfl, of_decide_eq_true rfl, of_decide_eq_true rfl⟩ ?_
        | refine wpSide_i ⟨of_decide_eq_true rfl, of_decide_eq_true rfl, of_decide_eq_true rfl, lens_of rfl⟩ ?_
        | refine wpSide_i ⟨of_decide_eq_true rfl, ⟨Nat.le_of_ble_eq_true rfl, Nat.le_of_ble_eq_true rfl⟩, Nat.le_of_ble_eq_true rfl⟩ ?_
        | refine wpSide_i ⟨lens_of rfl, rfl, Nat.le_of_ble_eq_true rfl, Nat.le_of_ble_eq_true rfl⟩ ?_
        | refine wpSide_i ⟨lens_of rfl, Nat.le_of_ble_eq_true rfl, Nat.le_of_ble_eq_true rfl⟩ ?_
        | refine wpSide_i rfl ?_
        | refine wpSide_i ⟨rfl, rfl⟩ ?_
        | refine wpSide_i (by decide) ?_
        | refine wpSide_i (by simp; done) ?_
        | refine wpSide_i (by constructor <;> decide) ?_
        | refine wpIdx_i (n := 0) rfl rfl rfl ?_
        | refine wpIdx_i (n := 1) rfl rfl rfl ?_
        | refine wpIdx_i (n := 2) rfl rfl rfl ?_
        | refine wpIdx_i (n := 3) rfl rfl rfl ?_
        | refine wpIdx_i (n := 4) rfl rfl rfl ?_
        | refine wpIdx_i (n := 5) rfl rfl rfl ?_
        | refine wpIdx_i (n := 6) rfl rfl rfl ?_
        | refine wpIdx_i (n := 7) rfl rfl rfl ?_
        | refine wpIdx_i (n := 8) rfl rfl rfl ?_
        | refine wpIdx_i (n := 9) rfl rfl rfl ?_
        | refine wpIdx_i (n := 10) rfl rfl rfl ?_
        | refine wpIdx_i (n := 11) rfl rfl rfl ?_
        | refine wpIdx_i (n := 12) rfl rfl rfl ?_
        | refine wpInl_i func112 rfl rfl ?_
        | refine wpInl_i func228 rfl rfl ?_
        | refine ⟨.inr ⟨.inr ?_⟩⟩
        | refine ⟨⟨.ret _, _, numbers109 _ _ _ _ _ _ _ _ _ _, ?_⟩⟩
        | refine ⟨rfl, ?_⟩
        | refine ⟨_, rfl, ?_⟩
        | exact rfl)
      conv => whnf
      refine loop_rule (fun i : Nat => mkS [(1, .one (.ptr 0 0)), (5, .one (.ref 4 i)), (24, .one (.ref 1 8)), (25, .int 8), (26, .int i)] [(0, .vars (c.cv)), (1, .vec 3 (l8.map iE) false), (4, .vec 9 ((l8.take i).map fun n => sE (numS n)) false)] 5 59 0) (fun i => i ≤ 8) (fun i => 8 - i) 0 ?_ ?_ ?_
      · exact le_mkS ⟨.inl ⟨rfl, rfl⟩, .inr ⟨4, rfl, newT rfl rfl rfl (Nat.zero_lt_succ _)⟩, .inl ⟨rfl, rfl⟩, .inl ⟨rfl, rfl⟩, .inl ⟨rfl, rfl⟩, trivial⟩ ⟨.inl ⟨by rw [Cmd.cv, hy]; rfl, rfl⟩, .inl ⟨rfl, rfl⟩, .inr ⟨rfl, _, rfl, Nat.zero_lt_succ _⟩, trivial⟩ rfl rfl
      · simp
      · intro i hi next hnext
        conv => whnf
        refine wpB_c (fun h1 => ?_) (fun h1 => ?_)
        · have hlt : i < l8.length := by simp at h1; show i < 8; omega
          obtain ⟨x, hx⟩ := get_lt hlt
          have hlt8 : i < 8 := hlt
          conv => whnf
          refine wpSide_i ⟨rfl, by omega, by show (i : Int) < 8; omega⟩ ?_
          conv => whnf
          refine wpSide_i rfl (wpIdx_i (n := i) rfl (get_map iE hx) rfl ?_)
          conv => whnf
          refine wpCall_r (Number110 x) ?_
          conv => whnf
          have htl : ((l8.take i).map fun n => sE (numS n)).length = i := by simp only [List.length_map, List.length_take]; omega
          refine wpSide_i ⟨rfl, htl, (by show (i + 1) * 16 ≤ 140737488355328; omega), (by show i + 1 ≤ 140737488355328; omega)⟩ ?_
          conv => whnf
          refine wpN_succ hlt8 (by omega) ?_
          refine hnext (i + 1) _ hlt8 (by omega) ?_
          have e2 : ((l8.take (i + 1)).map fun n => sE (numS n)) = ((l8.take i).map fun n => sE (numS n)) ++ [sE (numS x)] := by rw [take_get hx, List.map_append]; rfl
          rw [e2]
          exact le_mkS ⟨.inl ⟨rfl, rfl⟩, .inl ⟨rfl, rfl⟩, .inl ⟨rfl, rfl⟩, .inl ⟨rfl, rfl⟩, .inl ⟨rfl, rfl⟩, trivial⟩ ⟨.inl ⟨rfl, rfl⟩, .inl ⟨rfl, rfl⟩, .inl ⟨rfl, rfl⟩, trivial⟩ rfl rfl
        · have : i = 8 := by simp at h1; omega
          subst this
          repeat' ((conv => whnf) <;> first
            | refine wpB_t rfl ?_
            | refine wpB_f rfl ?_
            | refine wpLen_i ?_
            | refine wpN_e (n := 0) rfl ?_
            | refine wpN_e (n := 1) rfl ?_
            | refine wpN_e (n := 2) rfl ?_
            | refine wpN_e (n := 3) rfl ?_
            | refine wpN_e (n := 4) rfl ?_
            | refine wpN_e (n := 5) rfl ?_
            | refine wpN_e (n := 6) rfl ?_
            | refine wpN_e (n := 7) rfl ?_
            | refine wpN_e (n := 8) rfl ?_
            | refine wpN_e (n := 9) rfl ?_
            | refine wpN_e (n := 10) rfl ?_
            | refine wpN_e (n := 11) rfl ?_
            | refine wpN_e (n := 12) rfl ?_
            | refine wpN_e (n := -1) rfl ?_
            | refine wpN_e (n := 100) rfl ?_
            | refine wpN_e (n := 1099511627776) rfl ?_
            | refine loop_unroll' ?_
            | refine wpSide_i ⟨rfl, trivial⟩ ?_
            | refine wpSide_i trivial ?_
            | refine wpSide_i ⟨rfl, Nat.le_of_ble_eq_true rfl, Nat.le_of_ble_eq_true rfl⟩ ?_
            | refine wpSide_i ⟨rfl, rfl, Nat.le_of_ble_eq_true rfl, Nat.le_of_ble_eq_true rfl⟩ ?_
            | refine wpSide_i ⟨rfl, of_decide_eq_true rfl, of_decide_eq_true rfl⟩ ?_
            | refine wpSide_i ⟨of_decide_eq_true rfl, of_decide_eq_true rfl, of_decide_eq_true rfl, lens_of rfl⟩ ?_
            | refine wpSide_i ⟨of_decide_eq_true rfl, ⟨Nat.le_of_ble_eq_true rfl, Nat.le_of_ble_eq_true rfl⟩, Nat.le_of_ble_eq_true rfl⟩ ?_
            | refine wpSide_i ⟨lens_of rfl, rfl, Nat.le_of_ble_eq_true rfl, Nat.le_of_ble_eq_true rfl⟩ ?_
            | refine wpSide_i ⟨lens_of rfl, Nat.le_of_ble_eq_true rfl, Nat.le_of_ble_eq_true rfl⟩ ?_
            | refine wpSide_i rfl ?_
            | refine wpSide_i ⟨rfl, rfl⟩ ?_
            | refine wpSide_i (by decide) ?_
            | refine wpSide_i (by simp; done) ?_
            | refine wpSide_i (by constructor <;> decide) ?_
            | refine wpIdx_i (n := 0) rfl rfl rfl ?_
            | refine wpIdx_i (n := 1) rfl rfl rfl ?_
            | refine wpIdx_i (n := 2) rfl rfl rfl ?_
            | refine wpIdx_i (n := 3) rfl rfl rfl ?_
            | refine wpIdx_i (n := 4) rfl rfl rfl ?_
            | refine wpIdx_i (n := 5) rfl rfl rfl ?_
            | refine wpIdx_i (n := 6) rfl rfl rfl ?_
            | refine wpIdx_i (n := 7) rfl rfl rfl ?_
            | refine wpIdx_i (n := 8) rfl rfl rfl ?_
            | refine wpIdx_i (n := 9) rfl rfl rfl ?_
            | refine wpIdx_i (n := 10) rfl rfl rfl ?_
            | refine wpIdx_i (n := 11) rfl rfl rfl ?_
            | refine wpIdx_i (n := 12) rfl rfl rfl ?_
            | refine wpInl_i func112 rfl rfl ?_
            | refine wpInl_i func228 rfl rfl ?_
            | refine ⟨.inr ⟨.inr ?_⟩⟩
            | refine ⟨⟨.ret _, _, numbers109 _ _ _ _ _ _ _ _ _ _, ?_⟩⟩
            | refine ⟨rfl, ?_⟩
            | refine ⟨_, rfl, ?_⟩
            | exact rfl)
          conv => whnf
          refine wpRegFS_i 4 11 [] [11, 12, 13, 14, 15, 16, 17] rfl rfl rfl ?_
          repeat' ((conv => whnf) <;> first
            | refine wpB_t rfl ?_
            | refine wpB_f rfl ?_
            | refine wpLen_i ?_
            | refine wpN_e (n := 0) rfl ?_
            | refine wpN_e (n := 1) rfl ?_
            | refine wpN_e (n := 2) rfl ?_
            | refine wpN_e (n := 3) rfl ?_
            | refine wpN_e (n := 4) rfl ?_
            | refine wpN_e (n := 5) rfl ?_
            | refine wpN_e (n := 6) rfl ?_
            | refine wpN_e (n := 7) rfl ?_
            | refine wpN_e (n := 8) rfl ?_
            | refine wpN_e (n := 9) rfl ?_
            | refine wpN_e (n := 10) rfl ?_
            | refine wpN_e (n := 11) rfl ?_
            | refine wpN_e (n := 12) rfl ?_
            | refine wpN_e (n := -1) rfl ?_
            | refine wpN_e (n := 100) rfl ?_
            | refine wpN_e (n := 1099511627776) rfl ?_
            | refine loop_unroll' ?_
            | refine wpSide_i ⟨rfl, trivial⟩ ?_
            | refine wpSide_i trivial ?_
            | refine wpSide_i ⟨rfl, Nat.le_of_ble_eq_true rfl, Nat.le_of_ble_eq_true rfl⟩ ?_
            | refine wpSide_i ⟨rfl, rfl, Nat.le_of_ble_eq_true rfl, Nat.le_of_ble_eq_true rfl⟩ ?_
            | refine wpSide_i ⟨rfl, of_decide_eq_true rfl, of_decide_eq_true rfl⟩ ?_
            | refine wpSide_i ⟨of_decide_eq_true rfl, of_decide_eq_true rfl, of_decide_eq_true rfl, lens_of rfl⟩ ?_
            | refine wpSide_i ⟨of_decide_eq_true rfl, ⟨Nat.le_of_ble_eq_true rfl, Nat.le_of_ble_eq_true rfl⟩, Nat.le_of_ble_eq_true rfl⟩ ?_
            | refine wpSide_i ⟨lens_of rfl, rfl, Nat.le_of_ble_eq_true rfl, Nat.le_of_ble_eq_true rfl⟩ ?_
            | refine wpSide_i ⟨lens_of rfl, Nat.le_of_ble_eq_true rfl, Nat.le_of_ble_eq_true rfl⟩ ?_
            | refine wpSide_i rfl ?_
            | refine wpSide_i ⟨rfl, rfl⟩ ?_
            | refine wpSide_i (by decide) ?_
            | refine wpSide_i (by simp; done) ?_
            | refine wpSide_i (by constructor <;> decide) ?_
            | refine wpIdx_i (n := 0) rfl rfl rfl ?_
            | refine wpIdx_i (n := 1) rfl rfl rfl ?_
            | refine wpIdx_i (n := 2) rfl rfl rfl ?_
            | refine wpIdx_i (n := 3) rfl rfl rfl ?_
            | refine wpIdx_i (n := 4) rfl rfl rfl ?_
            | refine wpIdx_i (n := 5) rfl rfl rfl ?_
            | refine wpIdx_i (n := 6) rfl rfl rfl ?_
            | refine wpIdx_i (n := 7) rfl rfl rfl ?_
            | refine wpIdx_i (n := 8) rfl rfl rfl ?_
            | refine wpIdx_i (n := 9) rfl rfl rfl ?_
            | refine wpIdx_i (n := 10) rfl rfl rfl ?_
            | refine wpIdx_i (n := 11) rfl rfl rfl ?_
            | refine wpIdx_i (n := 12) rfl rfl rfl ?_
            | refine wpInl_i func112 rfl rfl ?_
            | refine wpInl_i func228 rfl rfl ?_
            | refine ⟨.inr ⟨.inr ?_⟩⟩
            | refine ⟨⟨.ret _, _, numbers109 _ _ _ _ _ _ _ _ _ _, ?_⟩⟩
            | refine ⟨rfl, ?_⟩
            | refine ⟨_, rfl, ?_⟩
            | exact rfl)
          conv => whnf
          have ht : textL c = L10 := by simp [textL, hy, yesN, L10]
          have hM := textL_may h
          rw [ht] at hM
          refine wpCall_r (Row111 L10 (by show 10 ≤ 1048576; omega) (fun s hs => Nat.le_trans (hM.1 s hs) (by omega))) ?_
          conv => whnf
          refine retI ?_
          have e3 : textS c = rowS L10 := by rw [textS, h, ht]; rfl
          have e4 : textE c = rowE L10 := by rw [textE, h, hM.2]; rfl
          rw [e3, e4]
          rfl
    · let l8 : List Int := [c.kind, c.a, c.b, c.c, c.d, c.e, c.f, 1]
      let L10 : List Str := [numS c.kind, numS c.a, numS c.b, numS c.c, numS c.d, numS c.e, numS c.f, c.sku, c.to, numS 1]
      conv => whnf
      refine wpRegD_i rfl ?_
      repeat' ((conv => whnf) <;> first
        | refine wpB_t rfl ?_
        | refine wpB_f rfl ?_
        | refine wpLen_i ?_
        | refine wpN_e (n := 0) rfl ?_
        | refine wpN_e (n := 1) rfl ?_
        | refine wpN_e (n := 2) rfl ?_
        | refine wpN_e (n := 3) rfl ?_
        | refine wpN_e (n := 4) rfl ?_
        | refine wpN_e (n := 5) rfl ?_
        | refine wpN_e (n := 6) rfl ?_
        | refine wpN_e (n := 7) rfl ?_
        | refine wpN_e (n := 8) rfl ?_
        | refine wpN_e (n := 9) rfl ?_
        | refine wpN_e (n := 10) rfl ?_
        | refine wpN_e (n := 11) rfl ?_
        | refine wpN_e (n := 12) rfl ?_
        | refine wpN_e (n := -1) rfl ?_
        | refine wpN_e (n := 100) rfl ?_
        | refine wpN_e (n := 1099511627776) rfl ?_
        | refine wpSide_i ⟨rfl, trivial⟩ ?_
        | refine wpSide_i trivial ?_
        | refine wpSide_i ⟨rfl, Nat.le_of_ble_eq_true rfl, Nat.le_of_ble_eq_true rfl⟩ ?_
        | refine wpSide_i ⟨rfl, rfl, Nat.le_of_ble_eq_true rfl, Nat.le_of_ble_eq_true rfl⟩ ?_
        | refine wpSide_i ⟨rfl, of_decide_eq_true rfl, of_decide_eq_true rfl⟩ ?_
        | refine wpSide_i ⟨of_decide_eq_true rfl, of_decide_eq_true rfl, of_decide_eq_true rfl, lens_of rfl⟩ ?_
        | refine wpSide_i ⟨of_decide_eq_true rfl, ⟨Nat.le_of_ble_eq_true rfl, Nat.le_of_ble_eq_true rfl⟩, Nat.le_of_ble_eq_true rfl⟩ ?_
        | refine wpSide_i ⟨lens_of rfl, rfl, Nat.le_of_ble_eq_true rfl, Nat.le_of_ble_eq_true rfl⟩ ?_
        | refine wpSide_i ⟨lens_of rfl, Nat.le_of_ble_eq_true rfl, Nat.le_of_ble_eq_true rfl⟩ ?_
        | refine wpSide_i rfl ?_
        | refine wpSide_i ⟨rfl, rfl⟩ ?_
        | refine wpSide_i (by decide) ?_
        | refine wpSide_i (by simp; done) ?_
        | refine wpSide_i (by constructor <;> decide) ?_
        | refine wpIdx_i (n := 0) rfl rfl rfl ?_
        | refine wpIdx_i (n := 1) rfl rfl rfl ?_
        | refine wpIdx_i (n := 2) rfl rfl rfl ?_
        | refine wpIdx_i (n := 3) rfl rfl rfl ?_
        | refine wpIdx_i (n := 4) rfl rfl rfl ?_
        | refine wpIdx_i (n := 5) rfl rfl rfl ?_
        | refine wpIdx_i (n := 6) rfl rfl rfl ?_
        | refine wpIdx_i (n := 7) rfl rfl rfl ?_
        | refine wpIdx_i (n := 8) rfl rfl rfl ?_
        | refine wpIdx_i (n := 9) rfl rfl rfl ?_
        | refine wpIdx_i (n := 10) rfl rfl rfl ?_
        | refine wpIdx_i (n := 11) rfl rfl rfl ?_
        | refine wpIdx_i (n := 12) rfl rfl rfl ?_
        | refine wpInl_i func112 rfl rfl ?_
        | refine wpInl_i func228 rfl rfl ?_
        | refine ⟨.inr ⟨.inr ?_⟩⟩
        | refine ⟨⟨.ret _, _, numbers109 _ _ _ _ _ _ _ _ _ _, ?_⟩⟩
        | refine ⟨rfl, ?_⟩
        | refine ⟨_, rfl, ?_⟩
        | exact rfl)
      conv => whnf
      refine loop_rule (fun i : Nat => mkS [(1, .one (.ptr 0 0)), (5, .one (.ref 4 i)), (24, .one (.ref 1 8)), (25, .int 8), (26, .int i)] [(0, .vars (c.cv)), (1, .vec 3 (l8.map iE) false), (4, .vec 9 ((l8.take i).map fun n => sE (numS n)) false)] 5 59 0) (fun i => i ≤ 8) (fun i => 8 - i) 0 ?_ ?_ ?_
      · exact le_mkS ⟨.inl ⟨rfl, rfl⟩, .inr ⟨4, rfl, newT rfl rfl rfl (Nat.zero_lt_succ _)⟩, .inl ⟨rfl, rfl⟩, .inl ⟨rfl, rfl⟩, .inl ⟨rfl, rfl⟩, trivial⟩ ⟨.inl ⟨by rw [Cmd.cv, hy]; rfl, rfl⟩, .inl ⟨rfl, rfl⟩, .inr ⟨rfl, _, rfl, Nat.zero_lt_succ _⟩, trivial⟩ rfl rfl
      · simp
      · intro i hi next hnext
        conv => whnf
        refine wpB_c (fun h1 => ?_) (fun h1 => ?_)
        · have hlt : i < l8.length := by simp at h1; show i < 8; omega
          obtain ⟨x, hx⟩ := get_lt hlt
          have hlt8 : i < 8 := hlt
          conv => whnf
          refine wpSide_i ⟨rfl, by omega, by show (i : Int) < 8; omega⟩ ?_
          conv => whnf
          refine wpSide_i rfl (wpIdx_i (n := i) rfl (get_map iE hx) rfl ?_)
          conv => whnf
          refine wpCall_r (Number110 x) ?_
          conv => whnf
          have htl : ((l8.take i).map fun n => sE (numS n)).length = i := by simp only [List.length_map, List.length_take]; omega
          refine wpSide_i ⟨rfl, htl, (by show (i + 1) * 16 ≤ 140737488355328; omega), (by show i + 1 ≤ 140737488355328; omega)⟩ ?_
          conv => whnf
          refine wpN_succ hlt8 (by omega) ?_
          refine hnext (i + 1) _ hlt8 (by omega) ?_
          have e2 : ((l8.take (i + 1)).map fun n => sE (numS n)) = ((l8.take i).map fun n => sE (numS n)) ++ [sE (numS x)] := by rw [take_get hx, List.map_append]; rfl
          rw [e2]
          exact le_mkS ⟨.inl ⟨rfl, rfl⟩, .inl ⟨rfl, rfl⟩, .inl ⟨rfl, rfl⟩, .inl ⟨rfl, rfl⟩, .inl ⟨rfl, rfl⟩, trivial⟩ ⟨.inl ⟨rfl, rfl⟩, .inl ⟨rfl, rfl⟩, .inl ⟨rfl, rfl⟩, trivial⟩ rfl rfl
        · have : i = 8 := by simp at h1; omega
          subst this
          repeat' ((conv => whnf) <;> first
            | refine wpB_t rfl ?_
            | refine wpB_f rfl ?_
            | refine wpLen_i ?_
            | refine wpN_e (n := 0) rfl ?_
            | refine wpN_e (n := 1) rfl ?_
            | refine wpN_e (n := 2) rfl ?_
            | refine wpN_e (n := 3) rfl ?_
            | refine wpN_e (n := 4) rfl ?_
            | refine wpN_e (n := 5) rfl ?_
            | refine wpN_e (n := 6) rfl ?_
            | refine wpN_e (n := 7) rfl ?_
            | refine wpN_e (n := 8) rfl ?_
            | refine wpN_e (n := 9) rfl ?_
            | refine wpN_e (n := 10) rfl ?_
            | refine wpN_e (n := 11) rfl ?_
            | refine wpN_e (n := 12) rfl ?_
            | refine wpN_e (n := -1) rfl ?_
            | refine wpN_e (n := 100) rfl ?_
            | refine wpN_e (n := 1099511627776) rfl ?_
            | refine loop_unroll' ?_
            | refine wpSide_i ⟨rfl, trivial⟩ ?_
            | refine wpSide_i trivial ?_
            | refine wpSide_i ⟨rfl, Nat.le_of_ble_eq_true rfl, Nat.le_of_ble_eq_true rfl⟩ ?_
            | refine wpSide_i ⟨rfl, rfl, Nat.le_of_ble_eq_true rfl, Nat.le_of_ble_eq_true rfl⟩ ?_
            | refine wpSide_i ⟨rfl, of_decide_eq_true rfl, of_decide_eq_true rfl⟩ ?_
            | refine wpSide_i ⟨of_decide_eq_true rfl, of_decide_eq_true rfl, of_decide_eq_true rfl, lens_of rfl⟩ ?_
            | refine wpSide_i ⟨of_decide_eq_true rfl, ⟨Nat.le_of_ble_eq_true rfl, Nat.le_of_ble_eq_true rfl⟩, Nat.le_of_ble_eq_true rfl⟩ ?_
            | refine wpSide_i ⟨lens_of rfl, rfl, Nat.le_of_ble_eq_true rfl, Nat.le_of_ble_eq_true rfl⟩ ?_
            | refine wpSide_i ⟨lens_of rfl, Nat.le_of_ble_eq_true rfl, Nat.le_of_ble_eq_true rfl⟩ ?_
            | refine wpSide_i rfl ?_
            | refine wpSide_i ⟨rfl, rfl⟩ ?_
            | refine wpSide_i (by decide) ?_
            | refine wpSide_i (by simp; done) ?_
            | refine wpSide_i (by constructor <;> decide) ?_
            | refine wpIdx_i (n := 0) rfl rfl rfl ?_
            | refine wpIdx_i (n := 1) rfl rfl rfl ?_
            | refine wpIdx_i (n := 2) rfl rfl rfl ?_
            | refine wpIdx_i (n := 3) rfl rfl rfl ?_
            | refine wpIdx_i (n := 4) rfl rfl rfl ?_
            | refine wpIdx_i (n := 5) rfl rfl rfl ?_
            | refine wpIdx_i (n := 6) rfl rfl rfl ?_
            | refine wpIdx_i (n := 7) rfl rfl rfl ?_
            | refine wpIdx_i (n := 8) rfl rfl rfl ?_
            | refine wpIdx_i (n := 9) rfl rfl rfl ?_
            | refine wpIdx_i (n := 10) rfl rfl rfl ?_
            | refine wpIdx_i (n := 11) rfl rfl rfl ?_
            | refine wpIdx_i (n := 12) rfl rfl rfl ?_
            | refine wpInl_i func112 rfl rfl ?_
            | refine wpInl_i func228 rfl rfl ?_
            | refine ⟨.inr ⟨.inr ?_⟩⟩
            | refine ⟨⟨.ret _, _, numbers109 _ _ _ _ _ _ _ _ _ _, ?_⟩⟩
            | refine ⟨rfl, ?_⟩
            | refine ⟨_, rfl, ?_⟩
            | exact rfl)
          conv => whnf
          refine wpRegFS_i 4 11 [] [11, 12, 13, 14, 15, 16, 17] rfl rfl rfl ?_
          repeat' ((conv => whnf) <;> first
            | refine wpB_t rfl ?_
            | refine wpB_f rfl ?_
            | refine wpLen_i ?_
            | refine wpN_e (n := 0) rfl ?_
            | refine wpN_e (n := 1) rfl ?_
            | refine wpN_e (n := 2) rfl ?_
            | refine wpN_e (n := 3) rfl ?_
            | refine wpN_e (n := 4) rfl ?_
            | refine wpN_e (n := 5) rfl ?_
            | refine wpN_e (n := 6) rfl ?_
            | refine wpN_e (n := 7) rfl ?_
            | refine wpN_e (n := 8) rfl ?_
            | refine wpN_e (n := 9) rfl ?_
            | refine wpN_e (n := 10) rfl ?_
            | refine wpN_e (n := 11) rfl ?_
            | refine wpN_e (n := 12) rfl ?_
            | refine wpN_e (n := -1) rfl ?_
            | refine wpN_e (n := 100) rfl ?_
            | refine wpN_e (n := 1099511627776) rfl ?_
            | refine loop_unroll' ?_
            | refine wpSide_i ⟨rfl, trivial⟩ ?_
            | refine wpSide_i trivial ?_
            | refine wpSide_i ⟨rfl, Nat.le_of_ble_eq_true rfl, Nat.le_of_ble_eq_true rfl⟩ ?_
            | refine wpSide_i ⟨rfl, rfl, Nat.le_of_ble_eq_true rfl, Nat.le_of_ble_eq_true rfl⟩ ?_
            | refine wpSide_i ⟨rfl, of_decide_eq_true rfl, of_decide_eq_true rfl⟩ ?_
            | refine wpSide_i ⟨of_decide_eq_true rfl, of_decide_eq_true rfl, of_decide_eq_true rfl, lens_of rfl⟩ ?_
            | refine wpSide_i ⟨of_decide_eq_true rfl, ⟨Nat.le_of_ble_eq_true rfl, Nat.le_of_ble_eq_true rfl⟩, Nat.le_of_ble_eq_true rfl⟩ ?_
            | refine wpSide_i ⟨lens_of rfl, rfl, Nat.le_of_ble_eq_true rfl, Nat.le_of_ble_eq_true rfl⟩ ?_
            | refine wpSide_i ⟨lens_of rfl, Nat.le_of_ble_eq_true rfl, Nat.le_of_ble_eq_true rfl⟩ ?_
            | refine wpSide_i rfl ?_
            | refine wpSide_i ⟨rfl, rfl⟩ ?_
            | refine wpSide_i (by decide) ?_
            | refine wpSide_i (by simp; done) ?_
            | refine wpSide_i (by constructor <;> decide) ?_
            | refine wpIdx_i (n := 0) rfl rfl rfl ?_
            | refine wpIdx_i (n := 1) rfl rfl rfl ?_
            | refine wpIdx_i (n := 2) rfl rfl rfl ?_
            | refine wpIdx_i (n := 3) rfl rfl rfl ?_
            | refine wpIdx_i (n := 4) rfl rfl rfl ?_
            | refine wpIdx_i (n := 5) rfl rfl rfl ?_
            | refine wpIdx_i (n := 6) rfl rfl rfl ?_
            | refine wpIdx_i (n := 7) rfl rfl rfl ?_
            | refine wpIdx_i (n := 8) rfl rfl rfl ?_
            | refine wpIdx_i (n := 9) rfl rfl rfl ?_
            | refine wpIdx_i (n := 10) rfl rfl rfl ?_
            | refine wpIdx_i (n := 11) rfl rfl rfl ?_
            | refine wpIdx_i (n := 12) rfl rfl rfl ?_
            | refine wpInl_i func112 rfl rfl ?_
            | refine wpInl_i func228 rfl rfl ?_
            | refine ⟨.inr ⟨.inr ?_⟩⟩
            | refine ⟨⟨.ret _, _, numbers109 _ _ _ _ _ _ _ _ _ _, ?_⟩⟩
            | refine ⟨rfl, ?_⟩
            | refine ⟨_, rfl, ?_⟩
            | exact rfl)
          conv => whnf
          have ht : textL c = L10 := by simp [textL, hy, yesN, L10]
          have hM := textL_may h
          rw [ht] at hM
          refine wpCall_r (Row111 L10 (by show 10 ≤ 1048576; omega) (fun s hs => Nat.le_trans (hM.1 s hs) (by omega))) ?_
          conv => whnf
          refine retI ?_
          have e3 : textS c = rowS L10 := by rw [textS, h, ht]; rfl
          have e4 : textE c = rowE L10 := by rw [textE, h, hM.2]; rfl
          rw [e3, e4]
          rfl
  · conv => whnf
    refine retI ?_
    simp [textS, textE, h]
    rfl
end Go.Fw
