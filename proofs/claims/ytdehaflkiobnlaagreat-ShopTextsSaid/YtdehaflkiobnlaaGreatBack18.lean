/- A part of the proof of Rows.ShopBackSaid: what ShopBack answers, whatever the arguments; it stands under no condition. -/
import Derived.Test.YtdehaflkiobnlaaGreatBack17
import Derived.Test.YtdehaflkiobnlaaGreatBack14
set_option linter.unusedVariables false
set_option linter.unusedSimpArgs false
set_option linter.unusedSectionVars false
set_option linter.deprecated false
namespace Go.Fw
open Go Go.Proofs.Tryz
variable {I : CallRel}
def cutC (c : Cmd) : Cmd := { c with sku := c.sku.take 18, to := c.to.take 18 }
theorem min_e (n m : Nat) : (if (m : Int) < (n : Int) then (m : Int) else (n : Int)) = ((min n m : Nat) : Int) := by split <;> omega
theorem take_min {α : Type} (l : List α) (m : Nat) : List.drop (Int.toNat 0) (List.take (Int.toNat ((min l.length m : Nat) : Int)) l) = l.take m := by
  have e : Int.toNat ((min l.length m : Nat) : Int) = min l.length m := by omega
  rw [e]
  show List.drop 0 _ = _
  rw [List.drop_zero]
  rcases Nat.le_total l.length m with h | h
  · rw [Nat.min_eq_left h, List.take_length, List.take_of_length_le h]
  · rw [Nat.min_eq_right h]
set_option maxRecDepth 100000 in
theorem cut23 (c : Cmd) : PCX I 23 [c.av] [] (.ret (.w (.agg (cutC c).cv))) [] := by
  refine pcall_intro func23 rfl rfl ?_
  repeat' ((conv => whnf) <;> first
    | refine wpB_t rfl ?_
    | refine wpB_f rfl ?_
    | refine wpLen_i ?_
    | refine wpN_e (n := 0) rfl ?_
    | refine wpN_e (n := -1) rfl ?_
    | refine wpN_e (n := 100) rfl ?_
    | refine wpN_e (n := 1099511627776) rfl ?_
      | refine wpRegD_i rfl ?_
    | refine wpSide_i ⟨rfl, trivial⟩ ?_
    | refine wpSide_i trivial ?_
    | refine wpSide_i ⟨rfl, Nat.le_of_ble_eq_true rfl, Nat.le_of_ble_eq_true rfl⟩ ?_
    | refine wpSide_i ⟨rfl, rfl, Nat.le_of_ble_eq_true rfl, Nat.le_of_ble_eq_true rfl⟩ ?_
    | refine wpSide_i ⟨rfl, of_decide_eq_true rfl, of_decide_eq_true rfl⟩ ?_
    | refine wpSide_i ⟨of_decide_eq_true rfl, of_decide_eq_true rfl, of_decide_eq_true rfl, lens_of rfl⟩ ?_
    | refine wpSide_i ⟨of_decide_eq_true rfl, ⟨Nat.le_of_ble_eq_true rfl, Nat.le_of_ble_eq_true rfl⟩, Nat.le_of_ble_eq_true rfl⟩ ?_
    | refine wpSide_i ⟨lens_of rfl, rfl, Nat.le_of_ble_eq_true rfl, Nat.le_of_ble_eq_true rfl⟩ ?_
    | refine wpSide_i ⟨lens_of rfl, Nat.le_of_ble_eq_true rfl, Nat.le_of_ble_eq_true rfl⟩ ?_
    | refine wpSide_i rfl ?_
    | refine wpSide_i ⟨rfl, rfl⟩ ?_
    | refine wpIdx_i (n := 0) rfl rfl rfl ?_
    | refine ⟨rfl, ?_⟩
    | refine ⟨_, rfl, ?_⟩
    | exact rfl)
  refine wpN_e (min_e c.sku.length 18) ?_
  repeat' ((conv => whnf) <;> first
    | refine wpB_t rfl ?_
    | refine wpB_f rfl ?_
    | refine wpLen_i ?_
    | refine wpN_e (n := 0) rfl ?_
    | refine wpN_e (n := -1) rfl ?_
    | refine wpN_e (n := 100) rfl ?_
    | refine wpN_e (n := 1099511627776) rfl ?_
      | refine wpRegD_i rfl ?_
    | refine wpSide_i ⟨rfl, trivial⟩ ?_
    | refine wpSide_i trivial ?_
    | refine wpSide_i ⟨rfl, Nat.le_of_ble_eq_true rfl, Nat.le_of_ble_eq_true rfl⟩ ?_
    | refine wpSide_i ⟨rfl, rfl, Nat.le_of_ble_eq_true rfl, Nat.le_of_ble_eq_true rfl⟩ ?_
    | refine wpSide_i ⟨rfl, of_decide_eq_true rfl, of_decide_eq_true rfl⟩ ?_
    | refine wpSide_i ⟨of_decide_eq_true rfl, of_decide_eq_true rfl, of_decide_eq_true rfl, lens_of rfl⟩ ?_
    | refine wpSide_i ⟨of_decide_eq_true rfl, ⟨Nat.le_of_ble_eq_true rfl, Nat.le_of_ble_eq_true rfl⟩, Nat.le_of_ble_eq_true rfl⟩ ?_
    | refine wpSide_i ⟨lens_of rfl, rfl, Nat.le_of_ble_eq_true rfl, Nat.le_of_ble_eq_true rfl⟩ ?_
    | refine wpSide_i ⟨lens_of rfl, Nat.le_of_ble_eq_true rfl, Nat.le_of_ble_eq_true rfl⟩ ?_
    | refine wpSide_i rfl ?_
    | refine wpSide_i ⟨rfl, rfl⟩ ?_
    | refine wpIdx_i (n := 0) rfl rfl rfl ?_
    | refine ⟨rfl, ?_⟩
    | refine ⟨_, rfl, ?_⟩
    | exact rfl)
  refine wpSide_i ⟨by omega, by omega, by omega⟩ ?_
  rw [take_min]
  repeat' ((conv => whnf) <;> first
    | refine wpB_t rfl ?_
    | refine wpB_f rfl ?_
    | refine wpLen_i ?_
    | refine wpN_e (n := 0) rfl ?_
    | refine wpN_e (n := -1) rfl ?_
    | refine wpN_e (n := 100) rfl ?_
    | refine wpN_e (n := 1099511627776) rfl ?_
      | refine wpRegD_i rfl ?_
    | refine wpSide_i ⟨rfl, trivial⟩ ?_
    | refine wpSide_i trivial ?_
    | refine wpSide_i ⟨rfl, Nat.le_of_ble_eq_true rfl, Nat.le_of_ble_eq_true rfl⟩ ?_
    | refine wpSide_i ⟨rfl, rfl, Nat.le_of_ble_eq_true rfl, Nat.le_of_ble_eq_true rfl⟩ ?_
    | refine wpSide_i ⟨rfl, of_decide_eq_true rfl, of_decide_eq_true rfl⟩ ?_
    | refine wpSide_i ⟨of_decide_eq_true rfl, of_decide_eq_true rfl, of_decide_eq_true rfl, lens_of rfl⟩ ?_
    | refine wpSide_i ⟨of_decide_eq_true rfl, ⟨Nat.le_of_ble_eq_true rfl, Nat.le_of_ble_eq_true rfl⟩, Nat.le_of_ble_eq_true rfl⟩ ?_
    | refine wpSide_i ⟨lens_of rfl, rfl, Nat.le_of_ble_eq_true rfl, Nat.le_of_ble_eq_true rfl⟩ ?_
    | refine wpSide_i ⟨lens_of rfl, Nat.le_of_ble_eq_true rfl, Nat.le_of_ble_eq_true rfl⟩ ?_
    | refine wpSide_i rfl ?_
    | refine wpSide_i ⟨rfl, rfl⟩ ?_
    | refine wpIdx_i (n := 0) rfl rfl rfl ?_
    | refine ⟨rfl, ?_⟩
    | refine ⟨_, rfl, ?_⟩
    | exact rfl)
  refine wpN_e (min_e c.to.length 18) ?_
  repeat' ((conv => whnf) <;> first
    | refine wpB_t rfl ?_
    | refine wpB_f rfl ?_
    | refine wpLen_i ?_
    | refine wpN_e (n := 0) rfl ?_
    | refine wpN_e (n := -1) rfl ?_
    | refine wpN_e (n := 100) rfl ?_
    | refine wpN_e (n := 1099511627776) rfl ?_
      | refine wpRegD_i rfl ?_
    | refine wpSide_i ⟨rfl, trivial⟩ ?_
    | refine wpSide_i trivial ?_
    | refine wpSide_i ⟨rfl, Nat.le_of_ble_eq_true rfl, Nat.le_of_ble_eq_true rfl⟩ ?_
    | refine wpSide_i ⟨rfl, rfl, Nat.le_of_ble_eq_true rfl, Nat.le_of_ble_eq_true rfl⟩ ?_
    | refine wpSide_i ⟨rfl, of_decide_eq_true rfl, of_decide_eq_true rfl⟩ ?_
    | refine wpSide_i ⟨of_decide_eq_true rfl, of_decide_eq_true rfl, of_decide_eq_true rfl, lens_of rfl⟩ ?_
    | refine wpSide_i ⟨of_decide_eq_true rfl, ⟨Nat.le_of_ble_eq_true rfl, Nat.le_of_ble_eq_true rfl⟩, Nat.le_of_ble_eq_true rfl⟩ ?_
    | refine wpSide_i ⟨lens_of rfl, rfl, Nat.le_of_ble_eq_true rfl, Nat.le_of_ble_eq_true rfl⟩ ?_
    | refine wpSide_i ⟨lens_of rfl, Nat.le_of_ble_eq_true rfl, Nat.le_of_ble_eq_true rfl⟩ ?_
    | refine wpSide_i rfl ?_
    | refine wpSide_i ⟨rfl, rfl⟩ ?_
    | refine wpIdx_i (n := 0) rfl rfl rfl ?_
    | refine ⟨rfl, ?_⟩
    | refine ⟨_, rfl, ?_⟩
    | exact rfl)
  refine wpSide_i ⟨by omega, by omega, by omega⟩ ?_
  rw [take_min]
  repeat' ((conv => whnf) <;> first
    | refine wpB_t rfl ?_
    | refine wpB_f rfl ?_
    | refine wpLen_i ?_
    | refine wpN_e (n := 0) rfl ?_
    | refine wpN_e (n := -1) rfl ?_
    | refine wpN_e (n := 100) rfl ?_
    | refine wpN_e (n := 1099511627776) rfl ?_
      | refine wpRegD_i rfl ?_
    | refine wpSide_i ⟨rfl, trivial⟩ ?_
    | refine wpSide_i trivial ?_
    | refine wpSide_i ⟨rfl, Nat.le_of_ble_eq_true rfl, Nat.le_of_ble_eq_true rfl⟩ ?_
    | refine wpSide_i ⟨rfl, rfl, Nat.le_of_ble_eq_true rfl, Nat.le_of_ble_eq_true rfl⟩ ?_
    | refine wpSide_i ⟨rfl, of_decide_eq_true rfl, of_decide_eq_true rfl⟩ ?_
    | refine wpSide_i ⟨of_decide_eq_true rfl, of_decide_eq_true rfl, of_decide_eq_true rfl, lens_of rfl⟩ ?_
    | refine wpSide_i ⟨of_decide_eq_true rfl, ⟨Nat.le_of_ble_eq_true rfl, Nat.le_of_ble_eq_true rfl⟩, Nat.le_of_ble_eq_true rfl⟩ ?_
    | refine wpSide_i ⟨lens_of rfl, rfl, Nat.le_of_ble_eq_true rfl, Nat.le_of_ble_eq_true rfl⟩ ?_
    | refine wpSide_i ⟨lens_of rfl, Nat.le_of_ble_eq_true rfl, Nat.le_of_ble_eq_true rfl⟩ ?_
    | refine wpSide_i rfl ?_
    | refine wpSide_i ⟨rfl, rfl⟩ ?_
    | refine wpIdx_i (n := 0) rfl rfl rfl ?_
    | refine ⟨rfl, ?_⟩
    | refine ⟨_, rfl, ?_⟩
    | exact rfl)
end Go.Fw
namespace Go.Fw
/-! What is written is read. -/
theorem u8 {n : Nat} (h : n < 256) : (UInt8.ofNat n).toNat = n := by simp; omega
theorem unzig_zig (n : Int) : unzig (zig n) = n := by
  unfold unzig zig
  by_cases h : n < 0
  · rw [if_pos h, if_pos (by omega)]; omega
  · rw [if_neg h, if_neg (by omega)]; omega
theorem rdGo_num : ∀ (k y : Nat), y < k → ∀ (r : Str) (i x : Nat), i + (numB y).length ≤ 9 → (0 < i → 0 < y) → may (unzig (x + y * 128 ^ i)) = true → rdGo (numB y ++ r) i x = (unzig (x + y * 128 ^ i), r, 0)
  | 0, y, hy => by omega
  | k + 1, y, hy => by
    intro r i x hl hp hm
    by_cases h : y < 128
    · rw [numB_small h, List.singleton_append, rdGo]
      rw [numB_small h] at hl
      simp only [List.length_singleton] at hl
      rw [if_neg (by omega)]
      simp only [u8 (show y < 256 by omega)]
      rw [if_neg (by omega), Nat.mod_eq_of_lt h, if_neg]
      rintro (⟨h1, h2⟩ | h1)
      · have := hp h2; omega
      · rw [hm] at h1; cases h1
    · rw [numB_big h, List.cons_append, rdGo]
      rw [numB_big h] at hl
      simp only [List.length_cons] at hl
      rw [if_neg (by omega)]
      have hlt : y % 128 + 128 < 256 := by omega
      simp only [u8 hlt]
      rw [if_pos (by omega)]
      have e1 : (y % 128 + 128) % 128 = y % 128 := by omega
      have e2 : x + y % 128 * 128 ^ i + y / 128 * 128 ^ (i + 1) = x + y * 128 ^ i := by
        rw [Nat.pow_succ, Nat.mul_comm (128 ^ i) 128, ← Nat.mul_assoc, Nat.add_assoc, ← Nat.add_mul]
        congr 2; omega
      rw [e1]
      have := rdGo_num k (y / 128) (by omega) r (i + 1) (x + y % 128 * 128 ^ i) (by omega) (fun _ => by omega) (by rw [e2]; exact hm)
      rw [this, e2]
theorem rdN_numS {n : Int} (h : may n = true) (r : Str) : rdN (numS n ++ r) = (n, r, 0) := by
  unfold rdN numS
  rw [if_pos h]
  have hz := unzig_zig n
  have := rdGo_num (zig n + 1) (zig n) (by omega) r 0 0 (by have := numB_zig h; omega) (by omega) (by simp [hz, h])
  rw [this]
  simp [hz]
theorem cnt_numS {n m : Int} (h0 : 0 ≤ n) (h1 : n ≤ m) (h2 : m ≤ 1048576) (r : Str) : cnt (numS n ++ r) m = (n, r, 0) := by
  have hm : may n = true := by simp [may]; omega
  unfold cnt
  rw [rdN_numS hm]
  simp only
  rw [if_neg (by simp), if_neg (by omega), if_neg (by omega)]
theorem rdParts_items : ∀ (l : List Str) (r : Str), (∀ s ∈ l, s.length ≤ 4096) → rdParts l.length (items l ++ r) = (l, r, 0)
  | [], r, _ => by simp [rdParts, items]
  | s :: l, r, h => by
    have hs := h s (by simp)
    have ih := rdParts_items l r fun x hx => h x (by simp [hx])
    have e : items (s :: l) ++ r = numS s.length ++ (s ++ (items l ++ r)) := by simp [items, item]
    rw [List.length_cons, rdParts, e, cnt_numS (by omega) (by omega) (by omega)]
    simp only
    rw [if_neg (by simp), if_neg (by simp; omega)]
    have e2 : ((s.length : Int)).toNat = s.length := by omega
    rw [e2, List.drop_left, ih]
    simp
theorem rdRow_rowS {l : List Str} (h : rowMay l = true) : rdRow (rowS l) = (l, 0) := by
  have h' := h
  simp only [rowMay, Bool.and_eq_true, List.all_eq_true, decide_eq_true_eq] at h'
  unfold rdRow rowS
  rw [if_pos h, cnt_numS (by omega) (by omega) (by omega)]
  simp only
  rw [if_neg (by simp)]
  have e2 : ((l.length : Int)).toNat = l.length := by omega
  have := rdParts_items l [] h'.1
  rw [List.append_nil] at this
  rw [e2, this]
  simp
theorem nOf_numS {n : Int} (h : may n = true) : nOf (numS n) = n := by
  have := rdN_numS h []
  rw [List.append_nil] at this
  rw [nOf, this]
theorem numsOK_may : ∀ {f : Str} {l : List Int} {i : Nat}, numsOK f l i = true → ∀ n ∈ l, may n = true
  | f, [], _, _, n, hn => by simp at hn
  | f, x :: l, i, h, n, hn => by
    simp only [numsOK, Bool.and_eq_true] at h
    rcases List.mem_cons.1 hn with h1 | h1
    · subst h1
      have := h.1
      simp only [num40, Bool.and_eq_true, decide_eq_true_eq] at this
      simp [may]; omega
    · exact numsOK_may h.2.2 n h1
theorem cmdL_textL {c : Cmd} (h : shopRight c = true) : cmdL (textL c) = c := by
  have h' := h
  simp only [shopRight, Bool.and_eq_true] at h'
  have hn := numsOK_may h'.2.2.1
  have hk : may c.kind = true := by
    have h1 := h'.1; have h2 := h'.2.1
    simp at h1 h2
    simp [may]; omega
  have hy : decide (nOf (numS (yesN c.yes)) = 1) = c.yes := by
    rw [nOf_numS (by cases c.yes <;> rfl)]
    cases c.yes <;> rfl
  simp only [textL, cmdL]
  rw [hy, nOf_numS hk, nOf_numS (hn c.a (by simp)), nOf_numS (hn c.b (by simp)), nOf_numS (hn c.c (by simp)), nOf_numS (hn c.d (by simp)), nOf_numS (hn c.e (by simp)), nOf_numS (hn c.f (by simp))]
theorem textL_rowMay {c : Cmd} (h : shopRight c = true) : rowMay (textL c) = true := by
  unfold rowMay
  rw [Bool.and_eq_true]
  exact ⟨List.all_eq_true.2 fun s hs => by simpa using (textL_may h).1 s hs, rfl⟩
theorem read_text {c : Cmd} (h : shopRight c = true) : readC (textS c) = (c, 0) := by
  have e1 : textS c = rowS (textL c) := by rw [textS, h]; rfl
  have e2 := rdRow_rowS (textL_rowMay h)
  have e3 : rdRow (textS c) = (textL c, 0) := by rw [e1]; exact e2
  have e4 : textE c = 0 := by rw [textE, h]; rfl
  unfold readC
  rw [e3]
  show (if (0 : Int) = 0 ∧ (textL c).length = 10 ∧ textE (cmdL (textL c)) = 0 ∧ textS (cmdL (textL c)) = textS c then (cmdL (textL c), (0 : Int)) else (zeroC, 5)) = _
  rw [cmdL_textL h, if_pos ⟨rfl, rfl, e4, rfl⟩]
theorem text_inj {c d : Cmd} (hc : shopRight c = true) (hd : shopRight d = true) (h : textS c = textS d) : c = d := by
  have h1 := read_text hc
  rw [h, read_text hd] at h1
  exact (congrArg Prod.fst h1).symm
theorem readC_ok {s : Str} (h : (readC s).2 = 0) : textE (readC s).1 = 0 ∧ textS (readC s).1 = s := by
  unfold readC at h ⊢
  split
  · rename_i h1; exact ⟨h1.2.2.1, h1.2.2.2⟩
  · rename_i h1; rw [if_neg h1] at h; simp at h
theorem readC_bad {s : Str} (h : (readC s).2 ≠ 0) : (readC s).1 = zeroC := by
  unfold readC at h ⊢
  split
  · rename_i h1; rw [if_pos h1] at h; simp at h
  · rfl
end Go.Fw
namespace Go.Fw
open Go Go.Proofs.Tryz
variable {I : CallRel}
def ceq (c d : Cmd) : Bool := (decide (c.kind = d.kind) && (decide (c.sku = d.sku) && (decide (c.to = d.to) && (decide (c.a = d.a) && (decide (c.b = d.b) && (decide (c.c = d.c) && (decide (c.d = d.d) && (decide (c.e = d.e) &&
  (decide (c.f = d.f) && ((c.yes == d.yes) && true))))))))))
theorem ceq_iff {c d : Cmd} : ceq c d = true ↔ c = d := by
  obtain ⟨k, s, t, a, b, c, d, e, f, y⟩ := c
  rename_i d0
  obtain ⟨k', s', t', a', b', c', d', e', f', y'⟩ := d0
  simp [ceq]
theorem textE_iff (c : Cmd) : textE c = 0 ↔ shopRight c = true := by
  unfold textE
  cases shopRight c <;> simp
theorem textS_len (c : Cmd) : (textS c).length ≤ 1048576 := by
  unfold textS
  cases h : shopRight c with
  | false => simp
  | true =>
    have h1 := textL_may h
    have h2 := items_len h1.1
    have h3 := numS_len (textL c).length
    have h4 : (textL c).length = 10 := rfl
    rw [h4] at h2 h3
    show (rowS (textL c)).length ≤ _
    rw [rowS, if_pos (textL_rowMay h), h4, List.length_append]
    omega
set_option maxRecDepth 100000 in
set_option maxHeartbeats 4000000 in
theorem Back7 (hA : PCX I 28 [] [] (.ret (AV.bool true)) []) (c d : Cmd) (s : Str) : PCX I 7 [c.av, d.av, .str s] [] (.ret (AV.bool true)) [] := by
  refine pcall_intro func7 rfl rfl ?_
  conv => whnf
  refine wpRegD_i rfl ?_
  conv => whnf
  refine wpCall_r (cut23 c) ?_
  conv => whnf
  refine wpCall_r (cut23 d) ?_
  generalize cutC c = c
  generalize cutC d = d
  repeat' ((conv => whnf) <;> first
    | refine wpB_t rfl ?_
    | refine wpB_f rfl ?_
    | refine wpLen_i ?_
    | refine wpN_e (n := 0) rfl ?_
    | refine wpN_e (n := -1) rfl ?_
    | refine wpN_e (n := 100) rfl ?_
    | refine wpN_e (n := 1099511627776) rfl ?_
    | refine wpRegD_i rfl ?_
    | refine wpSide_i ⟨rfl, trivial⟩ ?_
    | refine wpSide_i trivial ?_
    | refine wpSide_i ⟨rfl, Nat.le_of_ble_eq_true rfl, Nat.le_of_ble_eq_true rfl⟩ ?_
    | refine wpSide_i ⟨rfl, rfl, Nat.le_of_ble_eq_true rfl, Nat.le_of_ble_eq_true rfl⟩ ?_
    | refine wpSide_i ⟨rfl, of_decide_eq_true rfl, of_decide_eq_true rfl⟩ ?_
    | refine wpSide_i ⟨of_decide_eq_true rfl, of_decide_eq_true rfl, of_decide_eq_true rfl, lens_of rfl⟩ ?_
    | refine wpSide_i ⟨of_decide_eq_true rfl, ⟨Nat.le_of_ble_eq_true rfl, Nat.le_of_ble_eq_true rfl⟩, Nat.le_of_ble_eq_true rfl⟩ ?_
    | refine wpSide_i ⟨lens_of rfl, rfl, Nat.le_of_ble_eq_true rfl, Nat.le_of_ble_eq_true rfl⟩ ?_
    | refine wpSide_i ⟨lens_of rfl, Nat.le_of_ble_eq_true rfl, Nat.le_of_ble_eq_true rfl⟩ ?_
    | refine wpSide_i rfl ?_
    | refine wpSide_i ⟨rfl, rfl⟩ ?_
    | refine wpIdx_i (n := 0) rfl rfl rfl ?_
    | refine wpCall_r (cut23 _) ?_
    | refine ⟨rfl, ?_⟩
    | refine ⟨_, rfl, ?_⟩
    | exact rfl)
  refine wpN_e (min_e s.length 200) ?_
  repeat' ((conv => whnf) <;> first
    | refine wpB_t rfl ?_
    | refine wpB_f rfl ?_
    | refine wpLen_i ?_
    | refine wpN_e (n := 0) rfl ?_
    | refine wpN_e (n := -1) rfl ?_
    | refine wpN_e (n := 100) rfl ?_
    | refine wpN_e (n := 1099511627776) rfl ?_
    | refine wpRegD_i rfl ?_
    | refine wpSide_i ⟨rfl, trivial⟩ ?_
    | refine wpSide_i trivial ?_
    | refine wpSide_i ⟨rfl, Nat.le_of_ble_eq_true rfl, Nat.le_of_ble_eq_true rfl⟩ ?_
    | refine wpSide_i ⟨rfl, rfl, Nat.le_of_ble_eq_true rfl, Nat.le_of_ble_eq_true rfl⟩ ?_
    | refine wpSide_i ⟨rfl, of_decide_eq_true rfl, of_decide_eq_true rfl⟩ ?_
    | refine wpSide_i ⟨of_decide_eq_true rfl, of_decide_eq_true rfl, of_decide_eq_true rfl, lens_of rfl⟩ ?_
    | refine wpSide_i ⟨of_decide_eq_true rfl, ⟨Nat.le_of_ble_eq_true rfl, Nat.le_of_ble_eq_true rfl⟩, Nat.le_of_ble_eq_true rfl⟩ ?_
    | refine wpSide_i ⟨lens_of rfl, rfl, Nat.le_of_ble_eq_true rfl, Nat.le_of_ble_eq_true rfl⟩ ?_
    | refine wpSide_i ⟨lens_of rfl, Nat.le_of_ble_eq_true rfl, Nat.le_of_ble_eq_true rfl⟩ ?_
    | refine wpSide_i rfl ?_
    | refine wpSide_i ⟨rfl, rfl⟩ ?_
    | refine wpIdx_i (n := 0) rfl rfl rfl ?_
    | refine wpCall_r (cut23 _) ?_
    | refine ⟨rfl, ?_⟩
    | refine ⟨_, rfl, ?_⟩
    | exact rfl)
  refine wpSide_i ⟨by omega, by omega, by omega⟩ ?_
  rw [take_min]
  have hs : (s.take 200).length ≤ 200 := by simp only [List.length_take]; omega
  generalize s.take 200 = s at hs
  repeat' ((conv => whnf) <;> first
    | refine wpB_t rfl ?_
    | refine wpB_f rfl ?_
    | refine wpLen_i ?_
    | refine wpN_e (n := 0) rfl ?_
    | refine wpN_e (n := -1) rfl ?_
    | refine wpN_e (n := 100) rfl ?_
    | refine wpN_e (n := 1099511627776) rfl ?_
    | refine wpRegD_i rfl ?_
    | refine wpSide_i ⟨rfl, trivial⟩ ?_
    | refine wpSide_i trivial ?_
    | refine wpSide_i ⟨rfl, Nat.le_of_ble_eq_true rfl, Nat.le_of_ble_eq_true rfl⟩ ?_
    | refine wpSide_i ⟨rfl, rfl, Nat.le_of_ble_eq_true rfl, Nat.le_of_ble_eq_true rfl⟩ ?_
    | refine wpSide_i ⟨rfl, of_decide_eq_true rfl, of_decide_eq_true rfl⟩ ?_
    | refine wpSide_i ⟨of_decide_eq_true rfl, of_decide_eq_true rfl, of_decide_eq_true rfl, lens_of rfl⟩ ?_
    | refine wpSide_i ⟨of_decide_eq_true rfl, ⟨Nat.le_of_ble_eq_true rfl, Nat.le_of_ble_eq_true rfl⟩, Nat.le_of_ble_eq_true rfl⟩ ?_
    | refine wpSide_i ⟨lens_of rfl, rfl, Nat.le_of_ble_eq_true rfl, Nat.le_of_ble_eq_true rfl⟩ ?_
    | refine wpSide_i ⟨lens_of rfl, Nat.le_of_ble_eq_true rfl, Nat.le_of_ble_eq_true rfl⟩ ?_
    | refine wpSide_i rfl ?_
    | refine wpSide_i ⟨rfl, rfl⟩ ?_
    | refine wpIdx_i (n := 0) rfl rfl rfl ?_
    | refine wpCall_r (cut23 _) ?_
    | refine ⟨rfl, ?_⟩
    | refine ⟨_, rfl, ?_⟩
    | exact rfl)
  refine wpCall_r (Text32 c) ?_
  conv => whnf
  refine wpCall_r (Text32 d) ?_
  conv => whnf
  have hr0 : textE c = 0 ↔ shopRight c = true := textE_iff c
  have hr1 : textE d = 0 ↔ shopRight d = true := textE_iff d
  refine wpB_c (fun h => ?_) (fun h => ?_)
  · have hc : shopRight c = true := hr0.1 (by simpa using h)
    have hR := Read33 (I := I) (textS c) (textS_len c)
    rw [read_text hc] at hR
    conv => whnf
    refine wpCall_r hR ?_
    conv => whnf
    refine wpB_f rfl ?_
    conv => whnf
    refine wpB_f (by simp) ?_
    conv => whnf
    refine wpB_c (fun h2 => ?_) (fun h2 => ?_)
    · have hd : shopRight d = true := hr1.1 (by simpa using h2)
      conv => whnf
      refine wpB_i ?_
      conv => whnf
      refine wpB_i ?_
      conv => whnf
      refine wpB_f (?_ : (!(decide (textS c = textS d) == ceq c d)) = false) ?_
      · by_cases hcd : c = d
        · subst hcd; simp [ceq_iff.2 rfl]
        · have h3 : textS c ≠ textS d := fun h => hcd (text_inj hc hd h)
          have h4 : ceq c d = false := by
            cases h : ceq c d with
            | false => rfl
            | true => exact absurd (ceq_iff.1 h) hcd
          simp [h3, h4]
      · conv => whnf
        refine wpCall_r (Read33 s (by omega)) ?_
        conv => whnf
        refine wpB_c (fun h9 => ?_) (fun h9 => ?_)
        · conv => whnf
          refine wpCall_r hA ?_
          conv => whnf
          have h9 : (readC s).2 ≠ 0 := by simpa using h9
          rw [readC_bad h9]
          refine wpB_t rfl ?_
          exact retI rfl
        · conv => whnf
          have h9 : (readC s).2 = 0 := by simpa using h9
          have h8 := readC_ok h9
          refine wpCall_r (Text32 (readC s).1) ?_
          conv => whnf
          refine wpCall_r hA ?_
          conv => whnf
          rw [h8.1, h8.2]
          refine wpB_t rfl ?_
          conv => whnf
          refine wpB_t (by simp) ?_
          exact retI rfl
    · conv => whnf
      refine wpCall_r (Read33 s (by omega)) ?_
      conv => whnf
      refine wpB_c (fun h9 => ?_) (fun h9 => ?_)
      · conv => whnf
        refine wpCall_r hA ?_
        conv => whnf
        have h9 : (readC s).2 ≠ 0 := by simpa using h9
        rw [readC_bad h9]
        refine wpB_t rfl ?_
        exact retI rfl
      · conv => whnf
        have h9 : (readC s).2 = 0 := by simpa using h9
        have h8 := readC_ok h9
        refine wpCall_r (Text32 (readC s).1) ?_
        conv => whnf
        refine wpCall_r hA ?_
        conv => whnf
        rw [h8.1, h8.2]
        refine wpB_t rfl ?_
        conv => whnf
        refine wpB_t (by simp) ?_
        exact retI rfl
  · conv => whnf
    refine wpCall_r (Read33 s (by omega)) ?_
    conv => whnf
    refine wpB_c (fun h9 => ?_) (fun h9 => ?_)
    · conv => whnf
      refine wpCall_r hA ?_
      conv => whnf
      have h9 : (readC s).2 ≠ 0 := by simpa using h9
      rw [readC_bad h9]
      refine wpB_t rfl ?_
      exact retI rfl
    · conv => whnf
      have h9 : (readC s).2 = 0 := by simpa using h9
      have h8 := readC_ok h9
      refine wpCall_r (Text32 (readC s).1) ?_
      conv => whnf
      refine wpCall_r hA ?_
      conv => whnf
      rw [h8.1, h8.2]
      refine wpB_t rfl ?_
      conv => whnf
      refine wpB_t (by simp) ?_
      exact retI rfl
end Go.Fw
