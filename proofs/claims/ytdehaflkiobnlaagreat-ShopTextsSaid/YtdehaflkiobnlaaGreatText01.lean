/- A part of the proof of Rows.ShopTextsSaid: what the document's reading and writing of commands answers, and that the shop's is the same; it stands under no condition. -/
import Derived.Test.YtdehaflkiobnlaaGreatBack14
import Derived.Test.YtdehaflkiobnlaaGreatBack15
import Derived.Test.YtdehaflkiobnlaaGreatBack16
import Derived.Test.YtdehaflkiobnlaaGreatBack17
import Derived.Test.YtdehaflkiobnlaaGreatBack18
set_option linter.unusedVariables false
set_option linter.unusedSimpArgs false
set_option linter.unusedSectionVars false
set_option linter.deprecated false
namespace Go.Fw
open Go Go.Proofs.Tryz
variable {I : CallRel}
/-! The document's numbers, rows, names. -/
set_option maxRecDepth 100000 in
theorem may379 (n : Int) : PCX I 379 [AV.int n] [] (.ret (.bool (may n))) [] := by
  refine pcall_intro func379 rfl rfl ?_
  repeat' ((conv => whnf) <;> first
    | refine wpB_c (fun h => ?_) (fun h => ?_)
    | refine retI (congrArg AV.bool (?_ : _ = may n)))
  all_goals (simp at *; simp [may, *]; try omega)
set_option maxRecDepth 100000 in
set_option maxHeartbeats 1000000 in
theorem Number124 (n : Int) (h : may n = true) : PCX I 124 [AV.int n] [] (.ret (.str (numS n))) [] := by
  refine pcall_intro func124 rfl rfl ?_
  have hm := (may_iff n).1 h
  have hz := zig_le h
  have hl := numB_zig h
  conv => whnf
  refine wpB_c (fun h2 => ?pos) (fun h2 => ?neg)
  case' pos =>
    have hn : ¬ n < 0 := by simpa using h2
    conv => whnf
    refine wpN_e (n := ((zig n : Nat) : Int)) (by rw [wrap64 (by omega) (by omega)]; unfold zig; rw [if_neg hn]; omega) ?_
  case' neg =>
    have hn : n < 0 := by simpa using h2
    conv => whnf
    refine wpN_e (n := 0 - n) (wrap64 (by omega) (by omega)) ?_
    conv => whnf
    refine wpN_e (n := 2 * (0 - n)) (wrap64 (by omega) (by omega)) ?_
    conv => whnf
    refine wpN_e (n := ((zig n : Nat) : Int)) (by rw [wrap64 (by omega) (by omega)]; unfold zig; rw [if_pos hn]; omega) ?_
  all_goals
    conv => whnf
    refine loop_rule (fun p : Str × Nat => mkS [(3, .int (p.2 : Int)), (4, .one (.ref 0 (byteRow p.1).length))] [(0, .vec 5 (byteRow p.1) false)] 1 32 0) (fun p => p.1 ++ numB p.2 = numB (zig n) ∧ p.2 ≤ 2305843009213693952) (fun p => p.2) ([], zig n) ?_ ?_ ?_
    · first
        | exact le_mkS ⟨.inl ⟨rfl, rfl⟩, .inl ⟨rfl, rfl⟩, trivial⟩ ⟨.inl ⟨rfl, rfl⟩, trivial⟩ rfl rfl
        | exact le_mkS ⟨.inl ⟨rfl, rfl⟩, .inr ⟨0, rfl, newT rfl rfl rfl (Nat.zero_lt_succ _)⟩, trivial⟩ ⟨.inr ⟨rfl, _, rfl, Nat.zero_lt_succ _⟩, trivial⟩ rfl rfl
    · exact ⟨rfl, hz⟩
    · rintro ⟨d, x⟩ ⟨hd, hx⟩ next hnext
      simp only at hd hx ⊢
      have hdl : d.length + (numB x).length ≤ 9 := by rw [← List.length_append, hd]; exact hl
      conv => whnf
      refine wpB_c (fun h3 => ?_) (fun h3 => ?_)
      · have h3 : ¬ x < 128 := by simp at h3; omega
        conv => whnf
        refine wpSide_i (by decide) ?_
        refine wpN_e (mod128 x) ?_
        conv => whnf
        refine wpN_e (n := ((x % 128 + 128 : Nat) : Int)) (by rw [wrap64 (by omega) (by omega)]; omega) ?_
        conv => whnf
        refine wpN_e (wrapU8 _) ?_
        conv => whnf
        refine wpSide_i ⟨rfl, rfl, ⟨(?_ : (_ + 1) * 1 ≤ _), (?_ : _ + 1 ≤ _)⟩⟩ ?_
        · rw [byteRow_len]; omega
        · rw [byteRow_len]; omega
        conv => whnf
        refine wpSide_i (by decide) ?_
        refine wpN_e (n := ((x / 128 : Nat) : Int)) (by rw [div128, wrap64 (by omega) (by omega)]) ?_
        conv => whnf
        refine hnext (d ++ [UInt8.ofNat (x % 128 + 128)], x / 128) _ ⟨?_, ?_⟩ ?_ ?_
        · rw [← hd, numB_big h3]; simp
        · simp only; omega
        · simp only; omega
        · simp only [← byteRow_snoc]
          refine le_mkS ⟨.inl ⟨rfl, rfl⟩, .inl ⟨by simp; rfl, rfl⟩, trivial⟩ ⟨.inl ⟨rfl, rfl⟩, trivial⟩ rfl rfl
      · have h3 : x < 128 := by simp at h3; omega
        conv => whnf
        refine wpN_e (wrapU8 _) ?_
        conv => whnf
        refine wpSide_i ⟨rfl, rfl, ⟨(?_ : (_ + 1) * 1 ≤ _), (?_ : _ + 1 ≤ _)⟩⟩ ?_
        · rw [byteRow_len]; omega
        · rw [byteRow_len]; omega
        conv => whnf
        refine wpSide_i (by simp) ⟨⟨d ++ [UInt8.ofNat x], byteRow_snoc _ _, ?_⟩⟩
        conv => whnf
        refine retI ?_
        rw [numS, if_pos h, ← hd, numB_small h3]
        rfl
def rowRef (l : List Str) : Str := numS l.length ++ items l
theorem items_snoc (l : List Str) (x : Str) : items (l ++ [x]) = items l ++ (numS x.length ++ x) := by simp [items, item]
set_option maxRecDepth 100000 in
set_option maxHeartbeats 1000000 in
theorem Row125 (l : List Str) (hl : l.length ≤ 1048576) (hs : ∀ s ∈ l, s.length ≤ 4096) : PCX I 125 [.one (.p (.sl (strs l)))] [] (.ret (.str (rowRef l))) [] := by
  refine pcall_intro func125 rfl rfl ?_
  have hlen : (strs l).length = l.length := by simp
  conv => whnf
  refine wpLen_i ?_
  conv => whnf
  refine wpCall_r (Number124 _ (by simp [may]; omega)) ?_
  conv => whnf
  refine wpLen_i ?_
  conv => whnf
  rw [hlen]
  refine loop_rule (fun i : Nat => mkS [(3, .str (numS l.length ++ items (l.take i))), (9, .one (.p (.sl (strs l)))), (10, .int l.length), (11, .int i)] [] 0 24 0)
    (fun i => i ≤ l.length) (fun i => l.length - i) 0 ?_ ?_ ?_
  · refine le_mkS ⟨.inl ⟨?_, rfl⟩, .inl ⟨rfl, rfl⟩, .inl ⟨rfl, rfl⟩, .inl ⟨rfl, rfl⟩, trivial⟩ trivial rfl rfl
    simp only [List.take_zero, items, List.map_nil, List.flatten_nil, List.append_nil]
    rfl
  · simp
  · intro i hi next hnext
    conv => whnf
    refine wpB_c (fun h1 => ?_) (fun h1 => ?_)
    · have hlt : i < l.length := by simp at h1; omega
      obtain ⟨x, hx⟩ := get_lt hlt
      conv => whnf
      refine wpSide_i trivial (wpIdx_i (n := i) rfl (get_map (fun s => [vS s]) hx) rfl ?_)
      conv => whnf
      have hxl := hs x (List.mem_of_getElem? hx)
      refine wpCall_r (Number124 _ (by simp [may]; omega)) ?_
      conv => whnf
      have h9 := numS_len (l.length : Int)
      have hxn := numS_len (x.length : Int)
      have hit := items_len (l := l.take i) fun s hs' => hs s (List.mem_of_mem_take hs')
      have htl : (l.take i).length ≤ 1048576 := by rw [List.length_take]; omega
      have hit' : (items (l.take i)).length ≤ 1048576 * 4105 := Nat.le_trans hit (Nat.mul_le_mul_right _ htl)
      refine wpSide_i (by simp only [List.length_append]; omega) ?_
      conv => whnf
      refine wpSide_i (by simp only [List.length_append]; omega) ?_
      conv => whnf
      refine wpN_succ hlt (by omega) ?_
      refine hnext (i + 1) _ hlt (by omega) ?_
      have e2 : numS l.length ++ items (l.take (i + 1)) = numS l.length ++ items (l.take i) ++ numS x.length ++ x := by rw [take_get hx, items_snoc]; simp
      rw [e2]
      exact le_mkS ⟨.inl ⟨rfl, rfl⟩, .inl ⟨rfl, rfl⟩, .inl ⟨rfl, rfl⟩, .inl ⟨rfl, rfl⟩, trivial⟩ trivial rfl rfl
    · have : i = l.length := by simp at h1; omega
      subst this
      refine retI ?_
      rw [List.take_length]
      rfl
theorem oddI (x : UInt8) : odd x = ((decide ((x.toNat : Int) < 97) || decide (122 < (x.toNat : Int))) && (decide ((x.toNat : Int) < 48) || decide (57 < (x.toNat : Int)))) := by
  have e1 : decide ((x.toNat : Int) < 97) = decide (x.toNat < 97) := by rw [decide_eq_decide]; omega
  have e2 : decide (122 < (x.toNat : Int)) = decide (122 < x.toNat) := by rw [decide_eq_decide]; omega
  have e3 : decide ((x.toNat : Int) < 48) = decide (x.toNat < 48) := by rw [decide_eq_decide]; omega
  have e4 : decide (57 < (x.toNat : Int)) = decide (57 < x.toNat) := by rw [decide_eq_decide]; omega
  rw [e1, e2, e3, e4]; rfl
set_option maxRecDepth 100000 in
theorem Name123 (s : Str) (hs : s.length ≤ 1048576) : PCX I 123 [AV.str s] [] (.ret (.bool (nameOK s))) [] := by
  refine pcall_intro func123 rfl rfl ?_
  conv => whnf
  refine loop_rule (fun i : Nat => mkS [(0, .str s), (3, .int i)] [] 0 40 0) (fun i => i ≤ s.length ∧ (s.drop i).any odd = s.any odd) (fun i => s.length - i) 0 ?_ ?_ ?_
  · exact le_mkS ⟨.inl ⟨rfl, rfl⟩, .inl ⟨rfl, rfl⟩, trivial⟩ trivial rfl rfl
  · simp
  · intro i ⟨hi, hq⟩ next hnext
    conv => whnf
    refine wpB_c (fun h1 => ?_) (fun h1 => ?_)
    · have hlt : i < s.length := by simp at h1; omega
      obtain ⟨x, hx⟩ := get_lt hlt
      have hg : s.getD i 0 = x := by rw [List.getD_eq_getElem?_getD, hx]; rfl
      have hge : (s.getD (Int.toNat (i : Int)) 0) = x := hg
      have hnx : odd x = false → s.length - (i + 1) < s.length - i ∧ i + 1 ≤ s.length ∧ (s.drop (i + 1)).any odd = s.any odd := fun ho => by
        refine ⟨by omega, hlt, ?_⟩
        rw [← hq, drop_get hx]; simp [ho]
      have hbad : odd x = true → nameOK s = false := fun ho => by
        have : s.any odd = true := by rw [← hq, drop_get hx]; simp [ho]
        simp only [nameOK, this]; simp
      repeat' ((conv => whnf) <;> first
        | refine wpB_c (fun h => ?_) (fun h => ?_)
        | refine wpSide_i ⟨by omega, by omega⟩ ?_
        | refine retI (congrArg AV.bool (?_ : _ = nameOK s))
        | refine wpN_succ hlt (by omega) ?_
        | refine hnext (i + 1) _ ⟨(hnx ?_).2.1, (hnx ?_).2.2⟩ (by omega) (le_mkS ⟨.inl ⟨rfl, rfl⟩, .inl ⟨rfl, rfl⟩, trivial⟩ trivial rfl rfl))
      all_goals (try simp only [hge] at *)
      all_goals first
        | (refine (hbad ?_).symm; clear hnx hbad hnext hq; rw [oddI]; simp only [*]; rfl)
        | (clear hnx hbad hnext hq; rw [oddI]; simp only [*]; rfl)
    · have : i = s.length := by simp at h1; omega
      subst this
      have ho : s.any odd = false := by rw [← hq]; simp
      repeat' ((conv => whnf) <;> first
        | refine wpB_c (fun h => ?_) (fun h => ?_)
        | refine retI (congrArg AV.bool (?_ : _ = nameOK s)))
      all_goals
        cases s with
        | nil => simp [nameOK] at *
        | cons c r =>
          simp only [nameOK, ho]
          simp at *
          try omega
end Go.Fw
namespace Go.Fw
open Go Go.Proofs.Tryz
variable {I : CallRel}
/-! The document's reading of numbers. -/
def fsm : Str → Nat → Option Nat
  | _, 0 => none
  | [], _ => none
  | c :: r, k + 1 => if c.toNat < 128 then some 0 else (fsm r k).map (· + 1)
def val7 : Str → Nat
  | [] => 0
  | c :: r => c.toNat % 128 + 128 * val7 r
theorem rdGo_eq : ∀ (s : Str) (i x : Nat), i ≤ 9 → rdGo s i x = match fsm s (9 - i) with
    | some p => if ((s.getD p 0).toNat = 0 ∧ 0 < i + p) ∨ may (unzig (x + val7 (s.take (p + 1)) * 128 ^ i)) = false then (0, [], 5) else (unzig (x + val7 (s.take (p + 1)) * 128 ^ i), s.drop (p + 1), 0)
    | none => if 9 ≤ i + s.length then (0, [], 3) else (0, [], 4)
  | s, i, x, hi => by
    by_cases h9 : i = 9
    · subst h9
      have e : fsm s (9 - 9) = none := by cases s <;> rfl
      rw [e]
      cases s <;> simp [rdGo]
    obtain ⟨k, hk⟩ : ∃ k, 9 - i = k + 1 := ⟨8 - i, by omega⟩
    have hk' : 9 - (i + 1) = k := by omega
    cases s with
    | nil =>
      rw [hk]
      show rdGo [] i x = _
      simp only [rdGo, fsm, List.length_nil]
      rw [if_neg (by omega), if_neg (by omega)]
    | cons c r =>
      rw [rdGo, if_neg (by omega), hk]
      simp only
      by_cases hc : c.toNat < 128
      · rw [if_neg (by omega)]
        simp only [fsm, if_pos hc]
        have e1 : val7 ((c :: r).take (0 + 1)) = c.toNat % 128 := by simp [val7]
        simp only [e1]
        have e2 : (c :: r).getD 0 0 = c := rfl
        have e3 : (c :: r).drop (0 + 1) = r := rfl
        rw [e2, e3, Nat.add_zero]
      · rw [if_pos (by omega), rdGo_eq r (i + 1) _ (by omega), hk']
        simp only [fsm, if_neg hc]
        cases hf : fsm r k with
        | none =>
          simp only [Option.map_none, List.length_cons]
          have e : (9 ≤ i + 1 + r.length) = (9 ≤ i + (r.length + 1)) := by rw [Nat.add_assoc, Nat.add_comm 1]
          simp only [e]
        | some p =>
          simp only [Option.map_some]
          have e1 : x + c.toNat % 128 * 128 ^ i + val7 (r.take (p + 1)) * 128 ^ (i + 1) = x + val7 ((c :: r).take (p + 1 + 1)) * 128 ^ i := by
            rw [List.take_succ_cons, val7, Nat.pow_succ, Nat.add_mul, Nat.mul_comm (128 ^ i) 128, ← Nat.mul_assoc, Nat.mul_comm (val7 _) 128, Nat.add_assoc]
          have e2 : (c :: r).getD (p + 1) 0 = r.getD p 0 := rfl
          have e3 : (c :: r).drop (p + 1 + 1) = r.drop (p + 1) := rfl
          have e4 : i + 1 + p = i + (p + 1) := by omega
          rw [e1, e2, e3, e4]
theorem fsm_succ : ∀ (s : Str) (i : Nat) (x : UInt8), s[i]? = some x → fsm s (i + 1) = match fsm s i with | some p => some p | none => if x.toNat < 128 then some i else none
  | [], i, x, h => by simp at h
  | c :: r, 0, x, h => by
    simp at h; subst h
    simp [fsm]
  | c :: r, i + 1, x, h => by
    have ih := fsm_succ r i x (by simpa using h)
    rw [fsm]
    by_cases hc : c.toNat < 128
    · simp [hc, fsm]
    · rw [if_neg hc, ih, fsm, if_neg hc]
      cases fsm r i with
      | some p => rfl
      | none => by_cases hx : x.toNat < 128 <;> simp [hx]
theorem fsm_lt : ∀ (s : Str) (k p : Nat), fsm s k = some p → p < s.length ∧ p < k
  | _, 0, _, h => by simp [fsm] at h
  | [], _ + 1, _, h => by simp [fsm] at h
  | c :: r, k + 1, p, h => by
    rw [fsm] at h
    split at h
    · simp at h; subst h; simp
    · simp at h
      obtain ⟨q, h1, h2⟩ := h
      have := fsm_lt r k q h1
      simp; omega
theorem fsm_end : ∀ (s : Str) (i k : Nat), s.length ≤ i → i ≤ k → fsm s i = fsm s k
  | [], 0, k, _, _ => by cases k <;> rfl
  | [], i + 1, 0, _, h => by omega
  | [], i + 1, k + 1, _, _ => rfl
  | c :: r, 0, _, h, _ => by simp at h
  | c :: r, i + 1, 0, _, h => by omega
  | c :: r, i + 1, k + 1, h, hk => by
    rw [fsm, fsm, fsm_end r i k (by simpa using h) (by omega)]
theorem val7_lt : ∀ (s : Str), val7 s < 128 ^ s.length
  | [] => by simp [val7]
  | c :: r => by
    have ih := val7_lt r
    rw [val7, List.length_cons, Nat.pow_succ]
    omega
def lastI : Option Nat → Int
  | some p => p
  | none => -1
abbrev tupA (p : Int × Str × Int) : AV := .w (.agg [.p (.v (vI p.1)), .p (.v (vS p.2.1)), .p (.v (vI p.2.2))])
set_option maxRecDepth 100000 in
set_option maxHeartbeats 2000000 in
theorem ReadNumber231 (s : Str) (hs : s.length ≤ 1048576) : PCX I 231 [AV.str s] [] (.ret (tupA (rdN s))) [] := by
  refine pcall_intro func231 rfl rfl ?_
  conv => whnf
  refine loop_rule (fun i : Nat => mkS [(0, .str s), (2, .one (.ptr 0 0)), (3, .int (lastI (fsm s i))), (4, .int i)] [(0, .vars [.p (.v (vI 0)), .p (.v (vS [])), .p (.v (vI 0))])] 1 79 0)
    (fun i => i ≤ s.length ∧ i ≤ 9) (fun i => 9 - i) 0 ?_ ?_ ?_
  · refine le_mkS ⟨.inl ⟨rfl, rfl⟩, .inl ⟨rfl, rfl⟩, .inl ⟨?_, rfl⟩, .inl ⟨rfl, rfl⟩, trivial⟩ ⟨.inl ⟨rfl, rfl⟩, trivial⟩ rfl rfl
    cases s <;> rfl
  · simp
  · intro i ⟨hi, hi9⟩ next hnext
    conv => whnf
    have go : (i = s.length ∨ i = 9) → fsm s i = fsm s 9 := by
      rintro (h | h)
      · exact fsm_end s i 9 (by omega) (by omega)
      · rw [h]
    refine wpB_c (fun h1 => ?_) (fun h1 => ?_)
    · have hlt : i < s.length := by simp at h1; omega
      conv => whnf
      refine wpB_c (fun h2 => ?_) (fun h2 => ?_)
      · have hlt9 : i < 9 := by simp at h2; omega
        obtain ⟨x, hx⟩ := get_lt hlt
        have hg : s.getD i 0 = x := by rw [List.getD_eq_getElem?_getD, hx]; rfl
        have hge : s.getD (Int.toNat (i : Int)) 0 = x := hg
        have hsc := fsm_succ s i x hx
        conv => whnf
        refine wpB_c (fun h3 => ?_) (fun h3 => ?_)
        · have hn : fsm s i = none := by
            cases hf : fsm s i with
            | none => rfl
            | some q =>
              rw [hf] at h3
              have h5 : lastI (some q) < 0 := of_decide_eq_true h3
              have h6 : lastI (some q) = (q : Int) := rfl
              omega
          rw [hn] at hsc ⊢
          simp only at hsc
          conv => whnf
          refine wpSide_i ⟨by omega, by omega⟩ ?_
          conv => whnf
          rw [hge]
          refine wpB_c (fun h4 => ?_) (fun h4 => ?_)
          · rw [if_pos (by simp at h4; omega)] at hsc
            conv => whnf
            refine wpN_succ hlt (by omega) ?_
            refine hnext (i + 1) _ ⟨hlt, hlt9⟩ (by omega) ?_
            rw [hsc]
            exact le_mkS ⟨.inl ⟨rfl, rfl⟩, .inl ⟨rfl, rfl⟩, .inl ⟨rfl, rfl⟩, .inl ⟨rfl, rfl⟩, trivial⟩ ⟨.inl ⟨rfl, rfl⟩, trivial⟩ rfl rfl
          · rw [if_neg (by simp at h4; omega)] at hsc
            conv => whnf
            refine wpN_succ hlt (by omega) ?_
            refine hnext (i + 1) _ ⟨hlt, hlt9⟩ (by omega) ?_
            rw [hsc]
            exact le_mkS ⟨.inl ⟨rfl, rfl⟩, .inl ⟨rfl, rfl⟩, .inl ⟨rfl, rfl⟩, .inl ⟨rfl, rfl⟩, trivial⟩ ⟨.inl ⟨rfl, rfl⟩, trivial⟩ rfl rfl
        · have hsc' : fsm s (i + 1) = fsm s i := by
            cases hf : fsm s i with
            | none => rw [hf] at h3; simp [lastI] at h3
            | some q => rw [hf] at hsc; exact hsc
          conv => whnf
          refine wpN_succ hlt (by omega) ?_
          refine hnext (i + 1) _ ⟨hlt, hlt9⟩ (by omega) ?_
          rw [hsc']
          exact le_mkS ⟨.inl ⟨rfl, rfl⟩, .inl ⟨rfl, rfl⟩, .inl ⟨rfl, rfl⟩, .inl ⟨rfl, rfl⟩, trivial⟩ ⟨.inl ⟨rfl, rfl⟩, trivial⟩ rfl rfl
      · have hF := go (.inr (by simp at h2; omega))
        have hR := rdGo_eq s 0 0 (by omega)
        have hR : rdN s = _ := hR
        simp only [Nat.sub_zero] at hR
        rw [hF]
        generalize fsm s 9 = F at hR hF
        cases F with
        | none =>
          conv => whnf
          refine wpB_t rfl ?_
          conv => whnf
          refine wpB_c (fun h3 => ?_) (fun h3 => ?_)
          · conv => whnf
            refine retI ?_
            have e : rdN s = (0, [], 3) := by
              rw [hR]; simp only
              rw [if_pos (by simp at h3; omega)]
            rw [e]; rfl
          · conv => whnf
            refine wpB_t rfl ?_
            conv => whnf
            refine retI ?_
            have e : rdN s = (0, [], 4) := by
              rw [hR]; simp only
              rw [if_neg (by simp at h3; omega)]
            rw [e]; rfl
        | some p =>
          obtain ⟨hp, hp9⟩ := fsm_lt s i p hF
          simp only [Nat.zero_add, Nat.pow_zero, Nat.mul_one] at hR
          conv => whnf
          refine wpB_f (by apply decide_eq_false; show ¬ ((p : Int) < 0); omega) ?_
          conv => whnf
          refine wpB_f (by apply decide_eq_false; show ¬ ((p : Int) < 0); omega) ?_
          conv => whnf
          refine loop_rule (fun m : Nat => mkS [(0, .str s), (2, .one (.ptr 0 0)), (3, .int p), (5, .int (val7 ((s.take (p + 1)).drop m))), (6, .int ((m : Int) - 1))] [(0, .vars [.p (.v (vI 0)), .p (.v (vS [])), .p (.v (vI 0))])] 1 79 0)
            (fun m => m ≤ p + 1) (fun m => m) (p + 1) ?_ ?_ ?_
          · refine le_mkS ⟨.inl ⟨rfl, rfl⟩, .inl ⟨rfl, rfl⟩, .inl ⟨rfl, rfl⟩, .inl ⟨?_, rfl⟩, .inl ⟨?_, rfl⟩, trivial⟩ ⟨.inl ⟨rfl, rfl⟩, trivial⟩ rfl rfl
            · have e : (s.take (p + 1)).drop (p + 1) = [] := by simp
              rw [e]; rfl
            · have e : ((p + 1 : Nat) : Int) - 1 = (p : Int) := by omega
              rw [e]; rfl
          · simp
          · intro m hm next hnext
            have hvl := val7_lt ((s.take (p + 1)).drop m)
            have hlen : ((s.take (p + 1)).drop m).length = p + 1 - m := by simp only [List.length_drop, List.length_take]; omega
            rw [hlen] at hvl
            conv => whnf
            refine wpB_c (fun h3 => ?_) (fun h3 => ?_)
            · obtain ⟨k, rfl⟩ : ∃ k, m = k + 1 := ⟨m - 1, by simp at h3; omega⟩
              have hk : k < s.length := by omega
              obtain ⟨x, hx⟩ := get_lt hk
              have hg : s.getD k 0 = x := by rw [List.getD_eq_getElem?_getD, hx]; rfl
              have hx' : (s.take (p + 1))[k]? = some x := by rw [List.getElem?_take_of_lt (by omega)]; exact hx
              have hpow : 128 ^ (p + 1 - (k + 1)) ≤ 128 ^ 8 := Nat.pow_le_pow_right (by omega) (by omega)
              have h8 : (128 : Nat) ^ 8 = 72057594037927936 := by decide
              have hv := drop_get hx'
              generalize hY : val7 ((s.take (p + 1)).drop (k + 1)) = Y at *
              have hvk : val7 ((s.take (p + 1)).drop k) = x.toNat % 128 + 128 * Y := by rw [hv, val7, hY]
              have hxl : x.toNat < 256 := UInt8.toNat_lt x
              have hkk : ((k + 1 : Nat) : Int) - 1 = (k : Int) := by omega
              rw [hkk]
              have hge : s.getD (Int.toNat (k : Int)) 0 = x := hg
              conv => whnf
              refine wpN_e (n := ((128 * Y : Nat) : Int)) (by rw [wrap64 (by omega) (by omega)]; omega) ?_
              conv => whnf
              refine wpSide_i ⟨by omega, by omega⟩ ?_
              conv => whnf
              refine wpSide_i (by decide) ?_
              rw [hge]
              refine wpN_e (n := ((x.toNat % 128 : Nat) : Int)) (mod128 _) ?_
              conv => whnf
              refine wpN_e (n := ((x.toNat % 128 : Nat) : Int)) (wrap64 (by omega) (by omega)) ?_
              conv => whnf
              refine wpN_e (n := ((x.toNat % 128 + 128 * Y : Nat) : Int)) (by rw [wrap64 (by omega) (by omega)]; omega) ?_
              conv => whnf
              refine wpN_e (n := (k : Int) - 1) (wrap64 (by omega) (by omega)) ?_
              refine hnext k _ (by omega) (by omega) ?_
              rw [hvk]
              exact le_mkS ⟨.inl ⟨rfl, rfl⟩, .inl ⟨rfl, rfl⟩, .inl ⟨rfl, rfl⟩, .inl ⟨rfl, rfl⟩, .inl ⟨rfl, rfl⟩, trivial⟩ ⟨.inl ⟨rfl, rfl⟩, trivial⟩ rfl rfl
            · have hm0 : m = 0 := by simp at h3; omega
              subst hm0
              rw [List.drop_zero] at hvl ⊢
              have hpow : 128 ^ (p + 1 - 0) ≤ 128 ^ 9 := Nat.pow_le_pow_right (by omega) (by omega)
              have h9 : (128 : Nat) ^ 9 = 9223372036854775808 := by decide
              obtain ⟨x, hx⟩ := get_lt hp
              have hg : s.getD p 0 = x := by rw [List.getD_eq_getElem?_getD, hx]; rfl
              have hge : s.getD (Int.toNat (p : Int)) 0 = x := hg
              rw [hg] at hR
              generalize val7 (s.take (p + 1)) = X at *
              conv => whnf
              have hXb : X < 9223372036854775808 := by omega
              refine wpSide_i (by decide) ?_
              refine wpN_e (n := ((X / 2 : Nat) : Int)) (by rw [div2, wrap64 (by omega) (by omega)]) ?_
              conv => whnf
              refine wpSide_i (by decide) ?_
              refine wpN_e (mod2 X) ?_
              conv => whnf
              refine wpB_c (fun h4 => ?_) (fun h4 => ?_)
              · have hu : unzig X = 0 - ((X / 2 : Nat) : Int) - 1 := by unfold unzig; rw [if_pos (by simp at h4; omega)]; omega
                conv => whnf
                refine wpN_e (n := 0 - ((X / 2 : Nat) : Int)) (wrap64 (by omega) (by omega)) ?_
                conv => whnf
                refine wpN_e (n := unzig X) (by rw [hu]; exact wrap64 (by omega) (by omega)) ?_
                conv => whnf
                refine wpSide_i ⟨by omega, by omega⟩ ?_
                conv => whnf
                rw [hge]
                refine wpB_c (fun h5 => ?_) (fun h5 => ?_)
                · conv => whnf
                  refine wpB_c (fun h6 => ?_) (fun h6 => ?_)
                  · have e : rdN s = (0, [], 5) := by
                      rw [hR]
                      rw [if_pos (.inl ⟨by simp at h5; omega, by simp at h6; omega⟩)]
                    conv => whnf
                    refine retI ?_
                    rw [e]; rfl
                  · conv => whnf
                    refine wpCall_b (may379 (unzig X)) (fun h7 => ?_) (fun h7 => ?_)
                    · have e : rdN s = (unzig X, s.drop (p + 1), 0) := by
                        rw [hR]
                        rw [if_neg]
                        rintro (⟨q1, q2⟩ | q)
                        · simp at h5; try simp at h6
                          omega
                        · rw [h7] at q; cases q
                      conv => whnf
                      refine wpN_e (n := (p : Int) + 1) (wrap64 (by omega) (by omega)) ?_
                      conv => whnf
                      refine wpSide_i ⟨by omega, by omega, by omega⟩ ?_
                      conv => whnf
                      refine retI ?_
                      rw [e]
                      have e6 : Int.toNat ((p : Int) + 1) = p + 1 := by omega
                      have e7 : (List.take (Int.toNat (s.length : Int)) s) = s := by simp
                      have e8 : List.drop (Int.toNat ((p : Int) + 1)) (List.take (Int.toNat (s.length : Int)) s) = s.drop (p + 1) := by rw [e6, e7]
                      rw [← e8]
                      rfl
                    · have e : rdN s = (0, [], 5) := by
                        rw [hR]
                        rw [if_pos (.inr h7)]
                      conv => whnf
                      refine retI ?_
                      rw [e]; rfl
                · conv => whnf
                  refine wpCall_b (may379 (unzig X)) (fun h7 => ?_) (fun h7 => ?_)
                  · have e : rdN s = (unzig X, s.drop (p + 1), 0) := by
                      rw [hR]
                      rw [if_neg]
                      rintro (⟨q1, q2⟩ | q)
                      · simp at h5; try simp at h6
                        omega
                      · rw [h7] at q; cases q
                    conv => whnf
                    refine wpN_e (n := (p : Int) + 1) (wrap64 (by omega) (by omega)) ?_
                    conv => whnf
                    refine wpSide_i ⟨by omega, by omega, by omega⟩ ?_
                    conv => whnf
                    refine retI ?_
                    rw [e]
                    have e6 : Int.toNat ((p : Int) + 1) = p + 1 := by omega
                    have e7 : (List.take (Int.toNat (s.length : Int)) s) = s := by simp
                    have e8 : List.drop (Int.toNat ((p : Int) + 1)) (List.take (Int.toNat (s.length : Int)) s) = s.drop (p + 1) := by rw [e6, e7]
                    rw [← e8]
                    rfl
                  · have e : rdN s = (0, [], 5) := by
                      rw [hR]
                      rw [if_pos (.inr h7)]
                    conv => whnf
                    refine retI ?_
                    rw [e]; rfl
              · have hu : ((X / 2 : Nat) : Int) = unzig X := by unfold unzig; rw [if_neg (by simp at h4; omega)]
                rw [hu]
                conv => whnf
                refine wpSide_i ⟨by omega, by omega⟩ ?_
                conv => whnf
                rw [hge]
                refine wpB_c (fun h5 => ?_) (fun h5 => ?_)
                · conv => whnf
                  refine wpB_c (fun h6 => ?_) (fun h6 => ?_)
                  · have e : rdN s = (0, [], 5) := by
                      rw [hR]
                      rw [if_pos (.inl ⟨by simp at h5; omega, by simp at h6; omega⟩)]
                    conv => whnf
                    refine retI ?_
                    rw [e]; rfl
                  · conv => whnf
                    refine wpCall_b (may379 (unzig X)) (fun h7 => ?_) (fun h7 => ?_)
                    · have e : rdN s = (unzig X, s.drop (p + 1), 0) := by
                        rw [hR]
                        rw [if_neg]
                        rintro (⟨q1, q2⟩ | q)
                        · simp at h5; try simp at h6
                          omega
                        · rw [h7] at q; cases q
                      conv => whnf
                      refine wpN_e (n := (p : Int) + 1) (wrap64 (by omega) (by omega)) ?_
                      conv => whnf
                      refine wpSide_i ⟨by omega, by omega, by omega⟩ ?_
                      conv => whnf
                      refine retI ?_
                      rw [e]
                      have e6 : Int.toNat ((p : Int) + 1) = p + 1 := by omega
                      have e7 : (List.take (Int.toNat (s.length : Int)) s) = s := by simp
                      have e8 : List.drop (Int.toNat ((p : Int) + 1)) (List.take (Int.toNat (s.length : Int)) s) = s.drop (p + 1) := by rw [e6, e7]
                      rw [← e8]
                      rfl
                    · have e : rdN s = (0, [], 5) := by
                        rw [hR]
                        rw [if_pos (.inr h7)]
                      conv => whnf
                      refine retI ?_
                      rw [e]; rfl
                · conv => whnf
                  refine wpCall_b (may379 (unzig X)) (fun h7 => ?_) (fun h7 => ?_)
                  · have e : rdN s = (unzig X, s.drop (p + 1), 0) := by
                      rw [hR]
                      rw [if_neg]
                      rintro (⟨q1, q2⟩ | q)
                      · simp at h5; try simp at h6
                        omega
                      · rw [h7] at q; cases q
                    conv => whnf
                    refine wpN_e (n := (p : Int) + 1) (wrap64 (by omega) (by omega)) ?_
                    conv => whnf
                    refine wpSide_i ⟨by omega, by omega, by omega⟩ ?_
                    conv => whnf
                    refine retI ?_
                    rw [e]
                    have e6 : Int.toNat ((p : Int) + 1) = p + 1 := by omega
                    have e7 : (List.take (Int.toNat (s.length : Int)) s) = s := by simp
                    have e8 : List.drop (Int.toNat ((p : Int) + 1)) (List.take (Int.toNat (s.length : Int)) s) = s.drop (p + 1) := by rw [e6, e7]
                    rw [← e8]
                    rfl
                  · have e : rdN s = (0, [], 5) := by
                      rw [hR]
                      rw [if_pos (.inr h7)]
                    conv => whnf
                    refine retI ?_
                    rw [e]; rfl
    · have hF := go (.inl (by simp at h1; omega))
      have hR := rdGo_eq s 0 0 (by omega)
      have hR : rdN s = _ := hR
      simp only [Nat.sub_zero] at hR
      rw [hF]
      generalize fsm s 9 = F at hR hF
      cases F with
      | none =>
        conv => whnf
        refine wpB_t rfl ?_
        conv => whnf
        refine wpB_c (fun h3 => ?_) (fun h3 => ?_)
        · conv => whnf
          refine retI ?_
          have e : rdN s = (0, [], 3) := by
            rw [hR]; simp only
            rw [if_pos (by simp at h3; omega)]
          rw [e]; rfl
        · conv => whnf
          refine wpB_t rfl ?_
          conv => whnf
          refine retI ?_
          have e : rdN s = (0, [], 4) := by
            rw [hR]; simp only
            rw [if_neg (by simp at h3; omega)]
          rw [e]; rfl
      | some p =>
        obtain ⟨hp, hp9⟩ := fsm_lt s i p hF
        simp only [Nat.zero_add, Nat.pow_zero, Nat.mul_one] at hR
        conv => whnf
        refine wpB_f (by apply decide_eq_false; show ¬ ((p : Int) < 0); omega) ?_
        conv => whnf
        refine wpB_f (by apply decide_eq_false; show ¬ ((p : Int) < 0); omega) ?_
        conv => whnf
        refine loop_rule (fun m : Nat => mkS [(0, .str s), (2, .one (.ptr 0 0)), (3, .int p), (5, .int (val7 ((s.take (p + 1)).drop m))), (6, .int ((m : Int) - 1))] [(0, .vars [.p (.v (vI 0)), .p (.v (vS [])), .p (.v (vI 0))])] 1 79 0)
          (fun m => m ≤ p + 1) (fun m => m) (p + 1) ?_ ?_ ?_
        · refine le_mkS ⟨.inl ⟨rfl, rfl⟩, .inl ⟨rfl, rfl⟩, .inl ⟨rfl, rfl⟩, .inl ⟨?_, rfl⟩, .inl ⟨?_, rfl⟩, trivial⟩ ⟨.inl ⟨rfl, rfl⟩, trivial⟩ rfl rfl
          · have e : (s.take (p + 1)).drop (p + 1) = [] := by simp
            rw [e]; rfl
          · have e : ((p + 1 : Nat) : Int) - 1 = (p : Int) := by omega
            rw [e]; rfl
        · simp
        · intro m hm next hnext
          have hvl := val7_lt ((s.take (p + 1)).drop m)
          have hlen : ((s.take (p + 1)).drop m).length = p + 1 - m := by simp only [List.length_drop, List.length_take]; omega
          rw [hlen] at hvl
          conv => whnf
          refine wpB_c (fun h3 => ?_) (fun h3 => ?_)
          · obtain ⟨k, rfl⟩ : ∃ k, m = k + 1 := ⟨m - 1, by simp at h3; omega⟩
            have hk : k < s.length := by omega
            obtain ⟨x, hx⟩ := get_lt hk
            have hg : s.getD k 0 = x := by rw [List.getD_eq_getElem?_getD, hx]; rfl
            have hx' : (s.take (p + 1))[k]? = some x := by rw [List.getElem?_take_of_lt (by omega)]; exact hx
            have hpow : 128 ^ (p + 1 - (k + 1)) ≤ 128 ^ 8 := Nat.pow_le_pow_right (by omega) (by omega)
            have h8 : (128 : Nat) ^ 8 = 72057594037927936 := by decide
            have hv := drop_get hx'
            generalize hY : val7 ((s.take (p + 1)).drop (k + 1)) = Y at *
            have hvk : val7 ((s.take (p + 1)).drop k) = x.toNat % 128 + 128 * Y := by rw [hv, val7, hY]
            have hxl : x.toNat < 256 := UInt8.toNat_lt x
            have hkk : ((k + 1 : Nat) : Int) - 1 = (k : Int) := by omega
            rw [hkk]
            have hge : s.getD (Int.toNat (k : Int)) 0 = x := hg
            conv => whnf
            refine wpN_e (n := ((128 * Y : Nat) : Int)) (by rw [wrap64 (by omega) (by omega)]; omega) ?_
            conv => whnf
            refine wpSide_i ⟨by omega, by omega⟩ ?_
            conv => whnf
            refine wpSide_i (by decide) ?_
            rw [hge]
            refine wpN_e (n := ((x.toNat % 128 : Nat) : Int)) (mod128 _) ?_
            conv => whnf
            refine wpN_e (n := ((x.toNat % 128 : Nat) : Int)) (wrap64 (by omega) (by omega)) ?_
            conv => whnf
            refine wpN_e (n := ((x.toNat % 128 + 128 * Y : Nat) : Int)) (by rw [wrap64 (by omega) (by omega)]; omega) ?_
            conv => whnf
            refine wpN_e (n := (k : Int) - 1) (wrap64 (by omega) (by omega)) ?_
            refine hnext k _ (by omega) (by omega) ?_
            rw [hvk]
            exact le_mkS ⟨.inl ⟨rfl, rfl⟩, .inl ⟨rfl, rfl⟩, .inl ⟨rfl, rfl⟩, .inl ⟨rfl, rfl⟩, .inl ⟨rfl, rfl⟩, trivial⟩ ⟨.inl ⟨rfl, rfl⟩, trivial⟩ rfl rfl
          · have hm0 : m = 0 := by simp at h3; omega
            subst hm0
            rw [List.drop_zero] at hvl ⊢
            have hpow : 128 ^ (p + 1 - 0) ≤ 128 ^ 9 := Nat.pow_le_pow_right (by omega) (by omega)
            have h9 : (128 : Nat) ^ 9 = 9223372036854775808 := by decide
            obtain ⟨x, hx⟩ := get_lt hp
            have hg : s.getD p 0 = x := by rw [List.getD_eq_getElem?_getD, hx]; rfl
            have hge : s.getD (Int.toNat (p : Int)) 0 = x := hg
            rw [hg] at hR
            generalize val7 (s.take (p + 1)) = X at *
            conv => whnf
            have hXb : X < 9223372036854775808 := by omega
            refine wpSide_i (by decide) ?_
            refine wpN_e (n := ((X / 2 : Nat) : Int)) (by rw [div2, wrap64 (by omega) (by omega)]) ?_
            conv => whnf
            refine wpSide_i (by decide) ?_
            refine wpN_e (mod2 X) ?_
            conv => whnf
            refine wpB_c (fun h4 => ?_) (fun h4 => ?_)
            · have hu : unzig X = 0 - ((X / 2 : Nat) : Int) - 1 := by unfold unzig; rw [if_pos (by simp at h4; omega)]; omega
              conv => whnf
              refine wpN_e (n := 0 - ((X / 2 : Nat) : Int)) (wrap64 (by omega) (by omega)) ?_
              conv => whnf
              refine wpN_e (n := unzig X) (by rw [hu]; exact wrap64 (by omega) (by omega)) ?_
              conv => whnf
              refine wpSide_i ⟨by omega, by omega⟩ ?_
              conv => whnf
              rw [hge]
              refine wpB_c (fun h5 => ?_) (fun h5 => ?_)
              · conv => whnf
                refine wpB_c (fun h6 => ?_) (fun h6 => ?_)
                · have e : rdN s = (0, [], 5) := by
                    rw [hR]
                    rw [if_pos (.inl ⟨by simp at h5; omega, by simp at h6; omega⟩)]
                  conv => whnf
                  refine retI ?_
                  rw [e]; rfl
                · conv => whnf
                  refine wpCall_b (may379 (unzig X)) (fun h7 => ?_) (fun h7 => ?_)
                  · have e : rdN s = (unzig X, s.drop (p + 1), 0) := by
                      rw [hR]
                      rw [if_neg]
                      rintro (⟨q1, q2⟩ | q)
                      · simp at h5; try simp at h6
                        omega
                      · rw [h7] at q; cases q
                    conv => whnf
                    refine wpN_e (n := (p : Int) + 1) (wrap64 (by omega) (by omega)) ?_
                    conv => whnf
                    refine wpSide_i ⟨by omega, by omega, by omega⟩ ?_
                    conv => whnf
                    refine retI ?_
                    rw [e]
                    have e6 : Int.toNat ((p : Int) + 1) = p + 1 := by omega
                    have e7 : (List.take (Int.toNat (s.length : Int)) s) = s := by simp
                    have e8 : List.drop (Int.toNat ((p : Int) + 1)) (List.take (Int.toNat (s.length : Int)) s) = s.drop (p + 1) := by rw [e6, e7]
                    rw [← e8]
                    rfl
                  · have e : rdN s = (0, [], 5) := by
                      rw [hR]
                      rw [if_pos (.inr h7)]
                    conv => whnf
                    refine retI ?_
                    rw [e]; rfl
              · conv => whnf
                refine wpCall_b (may379 (unzig X)) (fun h7 => ?_) (fun h7 => ?_)
                · have e : rdN s = (unzig X, s.drop (p + 1), 0) := by
                    rw [hR]
                    rw [if_neg]
                    rintro (⟨q1, q2⟩ | q)
                    · simp at h5; try simp at h6
                      omega
                    · rw [h7] at q; cases q
                  conv => whnf
                  refine wpN_e (n := (p : Int) + 1) (wrap64 (by omega) (by omega)) ?_
                  conv => whnf
                  refine wpSide_i ⟨by omega, by omega, by omega⟩ ?_
                  conv => whnf
                  refine retI ?_
                  rw [e]
                  have e6 : Int.toNat ((p : Int) + 1) = p + 1 := by omega
                  have e7 : (List.take (Int.toNat (s.length : Int)) s) = s := by simp
                  have e8 : List.drop (Int.toNat ((p : Int) + 1)) (List.take (Int.toNat (s.length : Int)) s) = s.drop (p + 1) := by rw [e6, e7]
                  rw [← e8]
                  rfl
                · have e : rdN s = (0, [], 5) := by
                    rw [hR]
                    rw [if_pos (.inr h7)]
                  conv => whnf
                  refine retI ?_
                  rw [e]; rfl
            · have hu : ((X / 2 : Nat) : Int) = unzig X := by unfold unzig; rw [if_neg (by simp at h4; omega)]
              rw [hu]
              conv => whnf
              refine wpSide_i ⟨by omega, by omega⟩ ?_
              conv => whnf
              rw [hge]
              refine wpB_c (fun h5 => ?_) (fun h5 => ?_)
              · conv => whnf
                refine wpB_c (fun h6 => ?_) (fun h6 => ?_)
                · have e : rdN s = (0, [], 5) := by
                    rw [hR]
                    rw [if_pos (.inl ⟨by simp at h5; omega, by simp at h6; omega⟩)]
                  conv => whnf
                  refine retI ?_
                  rw [e]; rfl
                · conv => whnf
                  refine wpCall_b (may379 (unzig X)) (fun h7 => ?_) (fun h7 => ?_)
                  · have e : rdN s = (unzig X, s.drop (p + 1), 0) := by
                      rw [hR]
                      rw [if_neg]
                      rintro (⟨q1, q2⟩ | q)
                      · simp at h5; try simp at h6
                        omega
                      · rw [h7] at q; cases q
                    conv => whnf
                    refine wpN_e (n := (p : Int) + 1) (wrap64 (by omega) (by omega)) ?_
                    conv => whnf
                    refine wpSide_i ⟨by omega, by omega, by omega⟩ ?_
                    conv => whnf
                    refine retI ?_
                    rw [e]
                    have e6 : Int.toNat ((p : Int) + 1) = p + 1 := by omega
                    have e7 : (List.take (Int.toNat (s.length : Int)) s) = s := by simp
                    have e8 : List.drop (Int.toNat ((p : Int) + 1)) (List.take (Int.toNat (s.length : Int)) s) = s.drop (p + 1) := by rw [e6, e7]
                    rw [← e8]
                    rfl
                  · have e : rdN s = (0, [], 5) := by
                      rw [hR]
                      rw [if_pos (.inr h7)]
                    conv => whnf
                    refine retI ?_
                    rw [e]; rfl
              · conv => whnf
                refine wpCall_b (may379 (unzig X)) (fun h7 => ?_) (fun h7 => ?_)
                · have e : rdN s = (unzig X, s.drop (p + 1), 0) := by
                    rw [hR]
                    rw [if_neg]
                    rintro (⟨q1, q2⟩ | q)
                    · simp at h5; try simp at h6
                      omega
                    · rw [h7] at q; cases q
                  conv => whnf
                  refine wpN_e (n := (p : Int) + 1) (wrap64 (by omega) (by omega)) ?_
                  conv => whnf
                  refine wpSide_i ⟨by omega, by omega, by omega⟩ ?_
                  conv => whnf
                  refine retI ?_
                  rw [e]
                  have e6 : Int.toNat ((p : Int) + 1) = p + 1 := by omega
                  have e7 : (List.take (Int.toNat (s.length : Int)) s) = s := by simp
                  have e8 : List.drop (Int.toNat ((p : Int) + 1)) (List.take (Int.toNat (s.length : Int)) s) = s.drop (p + 1) := by rw [e6, e7]
                  rw [← e8]
                  rfl
                · have e : rdN s = (0, [], 5) := by
                    rw [hR]
                    rw [if_pos (.inr h7)]
                  conv => whnf
                  refine retI ?_
                  rw [e]; rfl
end Go.Fw
namespace Go.Fw
open Go Go.Proofs.Tryz
variable {I : CallRel}
/-! The document's reading of counts and rows. -/
theorem rdN_err {s : Str} (h : (rdN s).2.2 ≠ 0) : rdN s = (0, [], (rdN s).2.2) := by
  have hR : rdN s = _ := rdGo_eq s 0 0 (by omega)
  generalize rdN s = p at *
  subst hR
  split at h
  · split at h
    · rename_i h1; rw [if_pos h1]
    · simp at h
  · split at h
    · rename_i h1; rw [if_pos h1]
    · rename_i h1; rw [if_neg h1]
set_option maxRecDepth 100000 in
theorem count230 (s : Str) (most : Int) (hs : s.length ≤ 1048576) : PCX I 230 [AV.str s, AV.int most] [] (.ret (tupA (cnt s most))) [] := by
  refine pcall_intro func230 rfl rfl ?_
  conv => whnf
  refine wpCall_r (ReadNumber231 s hs) ?_
  have hd : cnt s most = cnt s most := rfl
  have he := @rdN_err s
  conv at hd => lhs; unfold cnt
  simp only at hd
  generalize rdN s = p at hd he
  obtain ⟨n, r, e⟩ := p
  simp only at hd he
  conv => whnf
  refine wpB_c (fun h => ?_) (fun h => ?_)
  · have h : e ≠ 0 := by simpa using h
    rw [if_pos h] at hd
    have h1 := he h
    simp only [Prod.mk.injEq] at h1
    obtain ⟨rfl, rfl, _⟩ := h1
    conv => whnf
    exact retI (congrArg tupA hd)
  have h : e = 0 := by simpa using h
  rw [if_neg (by simpa using h)] at hd
  conv => whnf
  refine wpB_c (fun h2 => ?_) (fun h2 => ?_)
  · have h2 : n > most := by simpa using h2
    rw [if_pos h2] at hd
    conv => whnf
    exact retI (congrArg tupA hd)
  have h2 : ¬ n > most := by simpa using h2
  rw [if_neg h2] at hd
  conv => whnf
  refine wpB_c (fun h3 => ?_) (fun h3 => ?_)
  · have h3 : n < 0 := by simpa using h3
    rw [if_pos h3] at hd
    conv => whnf
    exact retI (congrArg tupA hd)
  have h3 : ¬ n < 0 := by simpa using h3
  rw [if_neg h3] at hd
  subst h
  conv => whnf
  exact retI (congrArg tupA hd)
set_option maxRecDepth 100000 in
set_option maxHeartbeats 1000000 in
theorem ReadRow115 (s : Str) (hs : s.length ≤ 1048576) : PCX I 115 [AV.str s] [] (.ret (rowA (rdRow s))) [] := by
  refine pcall_intro func115 rfl rfl ?_
  conv => whnf
  refine wpCall_r (count230 s 256 hs) ?_
  have hr := rdRow_eq s
  have hl := cnt_len s 256
  have hn := @cnt_num s 256
  generalize cnt s 256 = p at hr hl hn
  obtain ⟨m, r, e⟩ := p
  simp only at hr hl hn
  conv => whnf
  refine wpB_c (fun h => ?_) (fun h => ?_)
  · have h : e ≠ 0 := by simpa using h
    rw [if_pos h] at hr
    conv => whnf
    refine wpRegD_i rfl ?_
    conv => whnf
    refine ⟨rfl, ?_⟩
    exact retI (congrArg rowA hr.symm)
  have h : e = 0 := by simpa using h
  rw [if_neg (by simpa using h)] at hr
  have hm := hn h
  conv => whnf
  refine loop_rule (fun p : Nat × List Str × Str × (Int × Str × Int) => mkS [(0, .str p.2.2.1), (4, .one (.ptr 0 0)), (5, .int m), (6, .one (.ref 1 (strs p.2.1).length)), (7, .int (p.1 : Int))]
      [(0, .vars [.p (.v (vI p.2.2.2.1)), .p (.v (vS p.2.2.2.2.1)), .p (.v (vI p.2.2.2.2.2))]), (1, .vec 9 (strs p.2.1) false)] 2 55 0)
    (fun p => p.1 ≤ m.toNat ∧ p.2.1.length = p.1 ∧ p.2.2.1.length ≤ s.length ∧ rdFin p.2.1 (m.toNat - p.1) p.2.2.1 = rdRow s) (fun p => m.toNat - p.1) (0, [], r, (m, r, e)) ?_ ?_ ?_
  · exact le_mkS ⟨.inl ⟨rfl, rfl⟩, .inl ⟨rfl, rfl⟩, .inl ⟨rfl, rfl⟩, .inl ⟨rfl, rfl⟩, .inl ⟨rfl, rfl⟩, trivial⟩ ⟨.inl ⟨rfl, rfl⟩, .inl ⟨rfl, rfl⟩, trivial⟩ rfl rfl
  · exact ⟨Nat.zero_le _, rfl, hl, hr.symm⟩
  · rintro ⟨i, d, t, q⟩ ⟨hi, hdl, htl, hd⟩ next hnext
    simp only at hi hdl htl hd ⊢
    conv => whnf
    refine wpB_c (fun h2 => ?_) (fun h2 => ?_)
    · have h2 : i < m.toNat := by simp only [decide_eq_true_eq] at h2; omega
      have e1 : m.toNat - i = (m.toNat - (i + 1)) + 1 := by omega
      rw [e1, rdFin_succ] at hd
      conv => whnf
      refine wpCall_r (count230 t 4096 (by omega)) ?_
      have hl2 := cnt_len t 4096
      have hn2 := @cnt_num t 4096
      generalize cnt t 4096 = p2 at hd hl2 hn2
      obtain ⟨n2, r2, e2⟩ := p2
      simp only at hd hl2 hn2
      conv => whnf
      refine wpB_c (fun h3 => ?_) (fun h3 => ?_)
      · have h3 : e2 ≠ 0 := by simpa using h3
        rw [if_pos h3] at hd
        conv => whnf
        refine wpRegD_i rfl ?_
        conv => whnf
        refine ⟨rfl, ?_⟩
        exact retI (congrArg rowA hd)
      have h3 : e2 = 0 := by simpa using h3
      rw [if_neg (by simpa using h3)] at hd
      have hm2 := hn2 h3
      conv => whnf
      refine wpB_c (fun h4 => ?_) (fun h4 => ?_)
      · have h4 : n2 > r2.length := by simpa using h4
        rw [if_pos h4] at hd
        conv => whnf
        exact retI (congrArg rowA hd)
      have h4 : ¬ n2 > r2.length := by simpa using h4
      rw [if_neg h4] at hd
      conv => whnf
      refine wpSide_i ⟨by first | omega | (simp only []; omega), by first | omega | (simp only []; omega), by first | omega | (simp only []; omega)⟩ ?_
      conv => whnf
      refine wpSide_i ⟨rfl, rfl, ⟨(?_ : (_ + 1) * 16 ≤ _), (?_ : _ + 1 ≤ _)⟩⟩ ?_
      · simp only [List.length_map]; omega
      · simp only [List.length_map]; omega
      conv => whnf
      refine wpSide_i ⟨by first | omega | (simp only []; omega), by first | omega | (simp only []; omega), by first | omega | (simp only []; omega)⟩ ?_
      conv => whnf
      refine wpN_succ h2 (by omega) ?_
      refine hnext (i + 1, d ++ [r2.take n2.toNat], r2.drop n2.toNat, (n2, r2, e2)) _ ⟨h2, by simp [hdl], by simp; omega, hd⟩ (by simp only; omega) ?_
      simp only [← strs_snoc]
      refine le_mkS ?_ ?_ rfl rfl
      · exact ⟨.inl ⟨by simp; rfl, rfl⟩, .inl ⟨rfl, rfl⟩, .inl ⟨rfl, rfl⟩, .inl ⟨by simp; rfl, rfl⟩, .inl ⟨rfl, rfl⟩, trivial⟩
      · exact ⟨.inl ⟨rfl, rfl⟩, .inl ⟨by simp; rfl, rfl⟩, trivial⟩
    · have h2 : i = m.toNat := by simp only [decide_eq_false_iff_not] at h2; omega
      subst h2
      rw [Nat.sub_self] at hd
      rw [show rdFin d 0 t = if t ≠ [] then ([], 5) else (d, 0) by unfold rdFin rdParts; simp] at hd
      conv => whnf
      refine wpB_c (fun h3 => ?_) (fun h3 => ?_)
      · have h3 : t ≠ [] := by intro h; subst h; simp at h3
        rw [if_pos h3] at hd
        conv => whnf
        exact retI (congrArg rowA hd)
      · have h3 : t = [] := by simp at h3; cases t with | nil => rfl | cons a b => simp at h3
        rw [if_neg (by simpa using h3)] at hd
        conv => whnf
        exact retI ⟨rfl, congrArg rowA hd⟩
end Go.Fw
namespace Go.Fw
open Go Go.Proofs.Tryz
variable {I : CallRel}
/-! The document's commands. -/
def mostL : List Int := [0, 0, 3, 1, 1, 6, 1, 2, 1, 1, 1, 2, 1]
def mostOf (k : Nat) : Int := mostL.getD k 0
set_option maxRecDepth 100000 in
theorem most122 (k : Nat) (hk : k < 13) : PCX I 122 [AV.int k] [] (.ret (AV.int (mostOf k))) [] := by
  refine pcall_intro func122 rfl rfl ?_
  obtain ⟨m, hm⟩ := get_lt (l := mostL) (i := k) hk
  have e : mostOf k = m := by rw [mostOf, List.getD_eq_getElem?_getD, hm]; rfl
  rw [e]
  conv => whnf
  refine wpSide_i ⟨rfl, by omega, by show (k : Int) < 13; omega⟩ ?_
  conv => whnf
  refine wpSide_i rfl (wpIdx_i (n := k) rfl (get_map iE hm) rfl ?_)
  exact retI rfl
theorem has_most : ∀ k < 13, ∀ i < 6, hasR (hasL.getD k []) (65 + (i : Nat)) = decide ((i : Int) < mostOf k) := by decide
theorem has_s : ∀ k < 13, 1 ≤ k → hasR (hasL.getD k []) 115 = decide (k < 6) := by decide
theorem has_t : ∀ k < 13, 1 ≤ k → hasR (hasL.getD k []) 116 = decide (k = 2) := by decide
theorem has_y : ∀ k < 13, 1 ≤ k → hasR (hasL.getD k []) 121 = (decide (k = 5) || decide (k = 12)) := by decide
set_option maxRecDepth 100000 in
set_option maxHeartbeats 2000000 in
theorem Right36 (c : Cmd) (hs : c.sku.length ≤ 1048576) (ht : c.to.length ≤ 1048576) : PCX I 36 [c.av] [] (.ret (.bool (shopRight c))) [] := by
  refine pcall_intro func36 rfl rfl ?_
  conv => whnf
  refine wpB_c (fun h => ?_) (fun h => ?_)
  · exact retI (congrArg AV.bool (by simp at h; simp [shopRight]; omega))
  conv => whnf
  refine wpB_c (fun h2 => ?_) (fun h2 => ?_)
  · exact retI (congrArg AV.bool (by simp at h2; simp [shopRight]; omega))
  have h1 : 1 ≤ c.kind := by simp at h; omega
  have h13 : c.kind < 13 := by simp at h2; omega
  obtain ⟨k, hk⟩ : ∃ k : Nat, c.kind = k := ⟨c.kind.toNat, by omega⟩
  have hk13 : k < 13 := by omega
  have hk1 : 1 ≤ k := by omega
  have hf : fieldsOf c.kind = hasL.getD k [] := by rw [fieldsOf, hk, Int.toNat_natCast]
  have hm := has_most k hk13
  have e1 := has_s k hk13 hk1
  have e2 := has_t k hk13 hk1
  have e3 := has_y k hk13 hk1
  conv => whnf
  refine wpSide_i rfl (wpLen_i ?_)
  conv => whnf
  refine loop_rule (fun i : Nat => mkS [(1, .one (.ptr 0 0)), (25, .one (.ref 1 6)), (26, .int 6), (27, .int i)] [(0, .vars c.cv), (1, .vec 3 (c.ns.map iE) false)] 2 92 0)
    (fun i => i ≤ 6 ∧ numsOK (hasL.getD k []) (c.ns.drop i) i = numsOK (hasL.getD k []) c.ns 0) (fun i => 6 - i) 0 ?_ ?_ ?_
  · exact le_mkS ⟨.inl ⟨rfl, rfl⟩, .inl ⟨rfl, rfl⟩, .inl ⟨rfl, rfl⟩, .inl ⟨rfl, rfl⟩, trivial⟩ ⟨.inl ⟨rfl, rfl⟩, .inl ⟨rfl, rfl⟩, trivial⟩ rfl rfl
  · simp
  · intro i ⟨hi, hq⟩ next hnext
    conv => whnf
    refine wpB_c (fun h3 => ?_) (fun h3 => ?_)
    · have hlt : i < c.ns.length := by simp at h3; show i < 6; omega
      have hlt6 : i < 6 := hlt
      obtain ⟨x, hx⟩ := get_lt hlt
      have hmi := hm i hlt6
      have hgood : (num40 x && (decide (x = 0) || decide ((i : Int) < mostOf k))) = true → numsOK (hasL.getD k []) (c.ns.drop (i + 1)) (i + 1) = numsOK (hasL.getD k []) c.ns 0 := fun hg => by
        rw [Bool.and_eq_true] at hg
        rw [← hq, drop_get hx, numsOK, hmi, hg.1, hg.2]; rfl
      have hbad : (num40 x && (decide (x = 0) || decide ((i : Int) < mostOf k))) = false → shopRight c = false := fun hb => by
        have : numsOK (hasL.getD k []) c.ns 0 = false := by
          rw [← hq, drop_get hx, numsOK, hmi]
          rw [Bool.and_eq_false_iff] at hb
          rcases hb with hb | hb <;> rw [hb] <;> simp
        simp only [shopRight, hf, this]; simp
      clear hq
      conv => whnf
      refine wpSide_i ⟨rfl, by omega, by show (i : Int) < 6; omega⟩ ?_
      conv => whnf
      refine wpSide_i rfl (wpIdx_i (n := i) rfl (get_map iE hx) rfl ?_)
      have hmost : PCX I 122 [AV.int c.kind] [] (.ret (AV.int (mostOf k))) [] := by rw [hk]; exact most122 k hk13
      repeat' ((conv => whnf) <;> first
        | refine wpB_c (fun h => ?_) (fun h => ?_)
        | refine wpCall_r hmost ?_
        | refine retI (congrArg AV.bool (?_ : _ = shopRight c))
        | refine wpN_succ hlt6 (by omega) ?_)
      all_goals first
        | (refine (hbad ?_).symm; clear hbad hgood hnext hmost; simp at *; simp [num40]; omega)
        | (refine hnext (i + 1) _ ⟨hlt6, hgood ?_⟩ (by omega) ?_ <;> first
            | (exact le_mkS ⟨.inl ⟨rfl, rfl⟩, .inl ⟨rfl, rfl⟩, .inl ⟨rfl, rfl⟩, .inl ⟨rfl, rfl⟩, trivial⟩ ⟨.inl ⟨rfl, rfl⟩, .inl ⟨rfl, rfl⟩, trivial⟩ rfl rfl)
            | (clear hbad hgood hnext hmost; simp at *; simp [num40]; omega))
        | (trace_state; sorry)
    · have : i = 6 := by simp at h3; omega
      subst this
      have hN : numsOK (hasL.getD k []) c.ns 0 = true := by rw [← hq]; rfl
      have hS : shopRight c = (mayF (hasL.getD k []) 115 c.sku && (mayF (hasL.getD k []) 116 c.to && (!c.yes || hasR (hasL.getD k []) 121))) := by
        simp only [shopRight, hf, hN, decide_eq_true h1, decide_eq_true h13, Bool.true_and]
      rw [mayF, mayF, e1, e2, e3] at hS
      rw [hS]
      have q5 : decide (c.kind = 5) = decide (k = 5) := by rw [decide_eq_decide]; omega
      have q12 : decide (c.kind = 12) = decide (k = 12) := by rw [decide_eq_decide]; omega
      have q2 : decide (c.kind = 2) = decide (k = 2) := by rw [decide_eq_decide]; omega
      have q6 : decide (c.kind < 6) = decide (k < 6) := by rw [decide_eq_decide]; omega
      clear hS hnext hq hN e1 e2 e3 hm
      conv => whnf
      generalize c.yes = y
      cases y
      all_goals
        repeat' ((conv => whnf) <;> first
          | refine wpB_c (fun h => ?_) (fun h => ?_)
          | refine wpCall_b (Name123 c.to ht) (fun h => ?_) (fun h => ?_)
          | refine wpCall_r (Name123 c.sku hs) ?_
          | refine retI (congrArg AV.bool ?_)
          | refine wpB_i ?_)
      all_goals first
        | (simp only [q5, q12, q2, q6] at *; simp_all; done)
        | (rw [← q6, ‹decide (c.kind < 6) = false›, cond_false, h]; rfl)
        | (trace_state; sorry)
end Go.Fw
namespace Go.Fw
open Go Go.Proofs.Tryz
variable {I : CallRel}
def numRef (s : Str) : Int := if (rdN s).2.2 ≠ 0 ∨ (rdN s).2.1 ≠ [] then -1 else (rdN s).1
set_option maxRecDepth 100000 in
theorem number116 (s : Str) (hs : s.length ≤ 1048576) : PCX I 116 [AV.str s] [] (.ret (AV.int (numRef s))) [] := by
  refine pcall_intro func116 rfl rfl ?_
  conv => whnf
  refine wpCall_r (ReadNumber231 s hs) ?_
  have hd : numRef s = numRef s := rfl
  conv at hd => lhs; unfold numRef
  generalize rdN s = p at hd
  obtain ⟨n, r, e⟩ := p
  simp only at hd
  rw [← hd]
  conv => whnf
  refine wpB_c (fun h => ?_) (fun h => ?_)
  · have h : e ≠ 0 := by simpa using h
    rw [if_pos (.inl h)]
    conv => whnf
    exact retI rfl
  have h : e = 0 := by simpa using h
  conv => whnf
  refine wpB_c (fun h2 => ?_) (fun h2 => ?_)
  · have h2 : r ≠ [] := by simpa using h2
    rw [if_pos (.inr h2)]
    conv => whnf
    exact retI rfl
  have h2 : r = [] := by simpa using h2
  rw [if_neg (by simp [h, h2])]
  conv => whnf
  exact retI rfl
theorem right_may {c : Cmd} (h : shopRight c = true) : ∀ n ∈ [c.kind, c.a, c.b, c.c, c.d, c.e, c.f], may n = true := by
  have h' := h
  simp only [shopRight, Bool.and_eq_true] at h'
  have h1 := h'.1
  have h2 := h'.2.1
  have h3 := h'.2.2.1
  simp only [decide_eq_true_eq] at h1 h2
  have hn : ∀ (f : Str) (l : List Int) (i : Nat), numsOK f l i = true → ∀ n ∈ l, may n = true := by
    intro f l
    induction l with
    | nil => intro i _ n hn; cases hn
    | cons x l ih =>
      intro i h n hn
      simp only [numsOK, Bool.and_eq_true] at h
      rcases List.mem_cons.1 hn with q | q
      · subst q
        have := h.1
        simp only [num40, Bool.and_eq_true, decide_eq_true_eq] at this
        simp [may]; omega
      · exact ih _ h.2.2 n q
  intro n hm
  rcases List.mem_cons.1 hm with q | q
  · subst q; simp [may]; omega
  · exact hn _ _ _ h3 n q
set_option maxRecDepth 100000 in
set_option maxHeartbeats 2000000 in
theorem Text37 (c : Cmd) (h : shopRight c = true) : PCX I 37 [c.av] [] (.ret (.str (textS c))) [] := by
  refine pcall_intro func37 rfl rfl ?_
  have hmay := right_may h
  let l7 : List Int := [c.kind, c.a, c.b, c.c, c.d, c.e, c.f]
  repeat' ((conv => whnf) <;> first
    | refine wpB_t rfl ?_
    | refine wpB_f rfl ?_
    | refine wpLen_i ?_
    | refine wpN_e (n := 0) rfl ?_
    | refine wpN_e (n := 1) rfl ?_
    | refine wpN_e (n := 2) rfl ?_
    | refine wpN_e (n := 3) rfl ?_
    | refine wpN_e (n := 4) rfl ?_
    | refine wpN_e (n := 5) rfl ?_
    | refine wpN_e (n := 6) rfl ?_
    | refine wpN_e (n := 7) rfl ?_
    | refine wpN_e (n := 8) rfl ?_
    | refine wpN_e (n := 9) rfl ?_
    | refine wpN_e (n := 10) rfl ?_
    | refine wpN_e (n := 11) rfl ?_
    | refine wpN_e (n := 12) rfl ?_
    | refine wpN_e (n := -1) rfl ?_
    | refine wpN_e (n := 100) rfl ?_
    | refine wpN_e (n := 1099511627776) rfl ?_
    | refine wpSide_i ⟨rfl, trivial⟩ ?_
    | refine wpSide_i trivial ?_
    | refine wpSide_i ⟨rfl, Nat.le_of_ble_eq_true rfl, Nat.le_of_ble_eq_true rfl⟩ ?_
    | refine wpSide_i ⟨rfl, rfl, Nat.le_of_ble_eq_true rfl, Nat.le_of_ble_eq_true rfl⟩ ?_
    | refine wpSide_i ⟨rfl, of_decide_eq_true rfl, of_decide_eq_true rfl⟩ ?_
    | refine wpSide_i ⟨of_decide_eq_true rfl, of_decide_eq_true rfl, of_decide_eq_true rfl, lens_of rfl⟩ ?_
    | refine wpSide_i ⟨of_decide_eq_true rfl, ⟨Nat.le_of_ble_eq_true rfl, Nat.le_of_ble_eq_true rfl⟩, Nat.le_of_ble_eq_true rfl⟩ ?_
    | refine wpSide_i ⟨lens_of rfl, rfl, Nat.le_of_ble_eq_true rfl, Nat.le_of_ble_eq_true rfl⟩ ?_
    | refine wpSide_i ⟨lens_of rfl, Nat.le_of_ble_eq_true rfl, Nat.le_of_ble_eq_true rfl⟩ ?_
    | refine wpSide_i rfl ?_
    | refine wpSide_i ⟨rfl, rfl⟩ ?_
    | refine wpIdx_i (n := 0) rfl rfl rfl ?_
    | refine wpIdx_i (n := 1) rfl rfl rfl ?_
    | refine wpIdx_i (n := 2) rfl rfl rfl ?_
    | refine wpIdx_i (n := 3) rfl rfl rfl ?_
    | refine wpIdx_i (n := 4) rfl rfl rfl ?_
    | refine wpIdx_i (n := 5) rfl rfl rfl ?_
    | refine wpIdx_i (n := 6) rfl rfl rfl ?_
    | refine wpIdx_i (n := 7) rfl rfl rfl ?_
    | refine wpIdx_i (n := 8) rfl rfl rfl ?_
    | refine wpIdx_i (n := 9) rfl rfl rfl ?_
    | refine wpIdx_i (n := 10) rfl rfl rfl ?_
    | refine wpIdx_i (n := 11) rfl rfl rfl ?_
    | refine wpIdx_i (n := 12) rfl rfl rfl ?_
    | refine ⟨rfl, ?_⟩
    | refine ⟨_, rfl, ?_⟩
    | exact rfl)
  conv => whnf
  refine loop_rule (fun i : Nat => mkS [(1, .one (.ptr 0 0)), (3, .one (.ref 1 i)), (22, .one (.ref 2 7)), (23, .int 7), (24, .int i)] [(0, .vars c.cv), (1, .vec 9 ((l7.take i).map fun n => sE (numS n)) false), (2, .vec 3 (l7.map iE) false)] 3 48 0) (fun i => i ≤ 7) (fun i => 7 - i) 0 ?_ ?_ ?_
  · exact le_mkS ⟨.inl ⟨rfl, rfl⟩, .inl ⟨rfl, rfl⟩, .inl ⟨rfl, rfl⟩, .inl ⟨rfl, rfl⟩, .inl ⟨rfl, rfl⟩, trivial⟩ ⟨.inl ⟨rfl, rfl⟩, .inl ⟨rfl, rfl⟩, .inl ⟨rfl, rfl⟩, trivial⟩ rfl rfl
  · simp
  · intro i hi next hnext
    conv => whnf
    refine wpB_c (fun h1 => ?_) (fun h1 => ?_)
    · have hlt : i < l7.length := by simp at h1; show i < 7; omega
      obtain ⟨x, hx⟩ := get_lt hlt
      have hlt7 : i < 7 := hlt
      conv => whnf
      refine wpSide_i ⟨rfl, by omega, by show (i : Int) < 7; omega⟩ ?_
      conv => whnf
      refine wpSide_i rfl (wpIdx_i (n := i) rfl (get_map iE hx) rfl ?_)
      conv => whnf
      refine wpCall_r (Number124 x (hmay x (List.mem_of_getElem? hx))) ?_
      conv => whnf
      have htl : ((l7.take i).map fun n => sE (numS n)).length = i := by simp only [List.length_map, List.length_take]; omega
      refine wpSide_i ⟨rfl, htl, (by show (i + 1) * 16 ≤ 140737488355328; omega), (by show i + 1 ≤ 140737488355328; omega)⟩ ?_
      conv => whnf
      refine wpN_succ hlt7 (by omega) ?_
      refine hnext (i + 1) _ hlt7 (by omega) ?_
      have e2 : ((l7.take (i + 1)).map fun n => sE (numS n)) = ((l7.take i).map fun n => sE (numS n)) ++ [sE (numS x)] := by rw [take_get hx, List.map_append]; rfl
      rw [e2]
      exact le_mkS ⟨.inl ⟨rfl, rfl⟩, .inl ⟨rfl, rfl⟩, .inl ⟨rfl, rfl⟩, .inl ⟨rfl, rfl⟩, .inl ⟨rfl, rfl⟩, trivial⟩ ⟨.inl ⟨rfl, rfl⟩, .inl ⟨rfl, rfl⟩, .inl ⟨rfl, rfl⟩, trivial⟩ rfl rfl
    · have : i = 7 := by simp at h1; omega
      subst this
      conv => whnf
      refine wpCall_r (Number124 0 rfl) ?_
      conv => whnf
      have hM := textL_may h
      have hE : textS c = rowRef (textL c) := by
        have hr : rowMay (textL c) = true := by
          unfold rowMay
          rw [Bool.and_eq_true]
          exact ⟨List.all_eq_true.2 fun s hs => by simpa using hM.1 s hs, rfl⟩
        rw [textS, h]
        show rowS (textL c) = _
        rw [rowS, if_pos hr]; rfl
      rw [hE]
      have hR := Row125 (I := I) (textL c) (by show 10 ≤ 1048576; omega) hM.1
      have hL : textL c = [numS c.kind, numS c.a, numS c.b, numS c.c, numS c.d, numS c.e, numS c.f, c.sku, c.to, numS (yesN c.yes)] := rfl
      rw [hL] at hR ⊢
      generalize c.yes = y at hR ⊢
      cases y
      · 
        repeat' ((conv => whnf) <;> first
          | refine wpB_t rfl ?_
          | refine wpB_f rfl ?_
          | refine wpLen_i ?_
          | refine wpN_e (n := 0) rfl ?_
          | refine wpN_e (n := 1) rfl ?_
          | refine wpN_e (n := 2) rfl ?_
          | refine wpN_e (n := 3) rfl ?_
          | refine wpN_e (n := 4) rfl ?_
          | refine wpN_e (n := 5) rfl ?_
          | refine wpN_e (n := 6) rfl ?_
          | refine wpN_e (n := 7) rfl ?_
          | refine wpN_e (n := 8) rfl ?_
          | refine wpN_e (n := 9) rfl ?_
          | refine wpN_e (n := 10) rfl ?_
          | refine wpN_e (n := 11) rfl ?_
          | refine wpN_e (n := 12) rfl ?_
          | refine wpN_e (n := -1) rfl ?_
          | refine wpN_e (n := 100) rfl ?_
          | refine wpN_e (n := 1099511627776) rfl ?_
          | refine wpSide_i ⟨rfl, trivial⟩ ?_
          | refine wpSide_i trivial ?_
          | refine wpSide_i ⟨rfl, Nat.le_of_ble_eq_true rfl, Nat.le_of_ble_eq_true rfl⟩ ?_
          | refine wpSide_i ⟨rfl, rfl, Nat.le_of_ble_eq_true rfl, Nat.le_of_ble_eq_true rfl⟩ ?_
          | refine wpSide_i ⟨rfl, of_decide_eq_true rfl, of_decide_eq_true rfl⟩ ?_
          | refine wpSide_i ⟨of_decide_eq_true rfl, of_decide_eq_true rfl, of_decide_eq_true rfl, lens_of rfl⟩ ?_
          | refine wpSide_i ⟨of_decide_eq_true rfl, ⟨Nat.le_of_ble_eq_true rfl, Nat.le_of_ble_eq_true rfl⟩, Nat.le_of_ble_eq_true rfl⟩ ?_
          | refine wpSide_i ⟨lens_of rfl, rfl, Nat.le_of_ble_eq_true rfl, Nat.le_of_ble_eq_true rfl⟩ ?_
          | refine wpSide_i ⟨lens_of rfl, Nat.le_of_ble_eq_true rfl, Nat.le_of_ble_eq_true rfl⟩ ?_
          | refine wpSide_i rfl ?_
          | refine wpSide_i ⟨rfl, rfl⟩ ?_
          | refine wpIdx_i (n := 0) rfl rfl rfl ?_
          | refine wpIdx_i (n := 1) rfl rfl rfl ?_
          | refine wpIdx_i (n := 2) rfl rfl rfl ?_
          | refine wpIdx_i (n := 3) rfl rfl rfl ?_
          | refine wpIdx_i (n := 4) rfl rfl rfl ?_
          | refine wpIdx_i (n := 5) rfl rfl rfl ?_
          | refine wpIdx_i (n := 6) rfl rfl rfl ?_
          | refine wpIdx_i (n := 7) rfl rfl rfl ?_
          | refine wpIdx_i (n := 8) rfl rfl rfl ?_
          | refine wpIdx_i (n := 9) rfl rfl rfl ?_
          | refine wpIdx_i (n := 10) rfl rfl rfl ?_
          | refine wpIdx_i (n := 11) rfl rfl rfl ?_
          | refine wpIdx_i (n := 12) rfl rfl rfl ?_
          | refine ⟨rfl, ?_⟩
          | refine ⟨_, rfl, ?_⟩
          | exact rfl)
        conv => whnf
        refine wpCall_r hR ?_
        exact retI rfl
      · conv => whnf
        refine wpCall_r (Number124 1 rfl) ?_
        repeat' ((conv => whnf) <;> first
          | refine wpB_t rfl ?_
          | refine wpB_f rfl ?_
          | refine wpLen_i ?_
          | refine wpN_e (n := 0) rfl ?_
          | refine wpN_e (n := 1) rfl ?_
          | refine wpN_e (n := 2) rfl ?_
          | refine wpN_e (n := 3) rfl ?_
          | refine wpN_e (n := 4) rfl ?_
          | refine wpN_e (n := 5) rfl ?_
          | refine wpN_e (n := 6) rfl ?_
          | refine wpN_e (n := 7) rfl ?_
          | refine wpN_e (n := 8) rfl ?_
          | refine wpN_e (n := 9) rfl ?_
          | refine wpN_e (n := 10) rfl ?_
          | refine wpN_e (n := 11) rfl ?_
          | refine wpN_e (n := 12) rfl ?_
          | refine wpN_e (n := -1) rfl ?_
          | refine wpN_e (n := 100) rfl ?_
          | refine wpN_e (n := 1099511627776) rfl ?_
          | refine wpSide_i ⟨rfl, trivial⟩ ?_
          | refine wpSide_i trivial ?_
          | refine wpSide_i ⟨rfl, Nat.le_of_ble_eq_true rfl, Nat.le_of_ble_eq_true rfl⟩ ?_
          | refine wpSide_i ⟨rfl, rfl, Nat.le_of_ble_eq_true rfl, Nat.le_of_ble_eq_true rfl⟩ ?_
          | refine wpSide_i ⟨rfl, of_decide_eq_true rfl, of_decide_eq_true rfl⟩ ?_
          | refine wpSide_i ⟨of_decide_eq_true rfl, of_decide_eq_true rfl, of_decide_eq_true rfl, lens_of rfl⟩ ?_
          | refine wpSide_i ⟨of_decide_eq_true rfl, ⟨Nat.le_of_ble_eq_true rfl, Nat.le_of_ble_eq_true rfl⟩, Nat.le_of_ble_eq_true rfl⟩ ?_
          | refine wpSide_i ⟨lens_of rfl, rfl, Nat.le_of_ble_eq_true rfl, Nat.le_of_ble_eq_true rfl⟩ ?_
          | refine wpSide_i ⟨lens_of rfl, Nat.le_of_ble_eq_true rfl, Nat.le_of_ble_eq_true rfl⟩ ?_
          | refine wpSide_i rfl ?_
          | refine wpSide_i ⟨rfl, rfl⟩ ?_
          | refine wpIdx_i (n := 0) rfl rfl rfl ?_
          | refine wpIdx_i (n := 1) rfl rfl rfl ?_
          | refine wpIdx_i (n := 2) rfl rfl rfl ?_
          | refine wpIdx_i (n := 3) rfl rfl rfl ?_
          | refine wpIdx_i (n := 4) rfl rfl rfl ?_
          | refine wpIdx_i (n := 5) rfl rfl rfl ?_
          | refine wpIdx_i (n := 6) rfl rfl rfl ?_
          | refine wpIdx_i (n := 7) rfl rfl rfl ?_
          | refine wpIdx_i (n := 8) rfl rfl rfl ?_
          | refine wpIdx_i (n := 9) rfl rfl rfl ?_
          | refine wpIdx_i (n := 10) rfl rfl rfl ?_
          | refine wpIdx_i (n := 11) rfl rfl rfl ?_
          | refine wpIdx_i (n := 12) rfl rfl rfl ?_
          | refine ⟨rfl, ?_⟩
          | refine ⟨_, rfl, ?_⟩
          | exact rfl)
        conv => whnf
        refine wpCall_r hR ?_
        exact retI rfl
end Go.Fw
namespace Go.Fw
open Go Go.Proofs.Tryz
variable {I : CallRel}
def cmdR : List Str → Cmd
  | [l0, l1, l2, l3, l4, l5, l6, l7, l8, l9] => ⟨numRef l0, l7, l8, numRef l1, numRef l2, numRef l3, numRef l4, numRef l5, numRef l6, decide (numRef l9 = 1)⟩
  | _ => zeroC
def lastR : List Str → Int
  | [_, _, _, _, _, _, _, _, _, l9] => numRef l9
  | _ => 0
def readR (s : Str) : Cmd × Bool :=
  if (rdRow s).2 = 0 ∧ (rdRow s).1.length = 10 ∧ 0 ≤ lastR (rdRow s).1 ∧ lastR (rdRow s).1 ≤ 1 ∧ shopRight (cmdR (rdRow s).1) = true then (cmdR (rdRow s).1, true) else (zeroC, false)
set_option maxRecDepth 100000 in
set_option maxHeartbeats 4000000 in
theorem Read34 (s : Str) (hs : s.length ≤ 1048576) : PCX I 34 [AV.str s] [] (.ret (.tup [.agg (readR s).1.cv, .one (.p (.v (.bool (readR s).2)))])) [] := by
  refine pcall_intro func34 rfl rfl ?_
  conv => whnf
  refine wpCall_r (ReadRow115 s hs) ?_
  have hd : readR s = readR s := rfl
  conv at hd => lhs; unfold readR
  have hlen := row_len s
  generalize rdRow s = p at hd hlen
  obtain ⟨L, e⟩ := p
  simp only at hd hlen
  rw [← hd]
  conv => whnf
  refine wpB_c (fun h => ?_) (fun h => ?_)
  · have h : e ≠ 0 := by simpa using h
    rw [if_neg (fun hh => h hh.1)]
    conv => whnf
    exact retI rfl
  have h : e = 0 := by simpa using h
  subst h
  conv => whnf
  refine wpLen_i ?_
  conv => whnf
  refine wpB_c (fun h => ?_) (fun h => ?_)
  · have h : L.length ≠ 10 := by simp at h; omega
    rw [if_neg (fun hh => h hh.2.1)]
    conv => whnf
    exact retI rfl
  have h : L.length = 10 := by simp at h; omega
  obtain ⟨l0, l1, l2, l3, l4, l5, l6, l7, l8, l9, rfl⟩ := ten h
  have hq : ∀ x ∈ [l0, l1, l2, l3, l4, l5, l6, l7, l8, l9], x.length ≤ 1048576 := fun x hx => Nat.le_trans (hlen x hx) (by omega)
  conv => whnf
  refine wpRegD_i rfl ?_
  show wpDr _ _ _ _ _ (_ :: _) _ _ _ _
  unfold wpDr
  repeat' ((conv => whnf) <;> first
    | refine wpB_t rfl ?_
    | refine wpB_f rfl ?_
    | refine wpLen_i ?_
    | refine wpN_e (n := 0) rfl ?_
    | refine wpN_e (n := 1) rfl ?_
    | refine wpN_e (n := 2) rfl ?_
    | refine wpN_e (n := 3) rfl ?_
    | refine wpN_e (n := 4) rfl ?_
    | refine wpN_e (n := 5) rfl ?_
    | refine wpN_e (n := 6) rfl ?_
    | refine wpN_e (n := 7) rfl ?_
    | refine wpN_e (n := 8) rfl ?_
    | refine wpN_e (n := 9) rfl ?_
    | refine wpN_e (n := 10) rfl ?_
    | refine wpN_e (n := 11) rfl ?_
    | refine wpN_e (n := 12) rfl ?_
    | refine wpN_e (n := -1) rfl ?_
    | refine wpN_e (n := 100) rfl ?_
    | refine wpN_e (n := 1099511627776) rfl ?_
    | refine wpSide_i ⟨rfl, trivial⟩ ?_
    | refine wpSide_i trivial ?_
    | refine wpSide_i ⟨rfl, Nat.le_of_ble_eq_true rfl, Nat.le_of_ble_eq_true rfl⟩ ?_
    | refine wpSide_i ⟨rfl, rfl, Nat.le_of_ble_eq_true rfl, Nat.le_of_ble_eq_true rfl⟩ ?_
    | refine wpSide_i ⟨rfl, of_decide_eq_true rfl, of_decide_eq_true rfl⟩ ?_
    | refine wpSide_i ⟨of_decide_eq_true rfl, of_decide_eq_true rfl, of_decide_eq_true rfl, lens_of rfl⟩ ?_
    | refine wpSide_i ⟨of_decide_eq_true rfl, ⟨Nat.le_of_ble_eq_true rfl, Nat.le_of_ble_eq_true rfl⟩, Nat.le_of_ble_eq_true rfl⟩ ?_
    | refine wpSide_i ⟨lens_of rfl, rfl, Nat.le_of_ble_eq_true rfl, Nat.le_of_ble_eq_true rfl⟩ ?_
    | refine wpSide_i ⟨lens_of rfl, Nat.le_of_ble_eq_true rfl, Nat.le_of_ble_eq_true rfl⟩ ?_
    | refine wpSide_i rfl ?_
    | refine wpSide_i ⟨rfl, rfl⟩ ?_
    | refine wpIdx_i (n := 0) rfl rfl rfl ?_
    | refine wpIdx_i (n := 1) rfl rfl rfl ?_
    | refine wpIdx_i (n := 2) rfl rfl rfl ?_
    | refine wpIdx_i (n := 3) rfl rfl rfl ?_
    | refine wpIdx_i (n := 4) rfl rfl rfl ?_
    | refine wpIdx_i (n := 5) rfl rfl rfl ?_
    | refine wpIdx_i (n := 6) rfl rfl rfl ?_
    | refine wpIdx_i (n := 7) rfl rfl rfl ?_
    | refine wpIdx_i (n := 8) rfl rfl rfl ?_
    | refine wpIdx_i (n := 9) rfl rfl rfl ?_
    | refine wpIdx_i (n := 10) rfl rfl rfl ?_
    | refine wpIdx_i (n := 11) rfl rfl rfl ?_
    | refine wpIdx_i (n := 12) rfl rfl rfl ?_
    | refine wpCall_r (number116 l0 (hq l0 (by simp))) ?_
    | refine wpCall_r (number116 l1 (hq l1 (by simp))) ?_
    | refine wpCall_r (number116 l2 (hq l2 (by simp))) ?_
    | refine wpCall_r (number116 l3 (hq l3 (by simp))) ?_
    | refine wpCall_r (number116 l4 (hq l4 (by simp))) ?_
    | refine wpCall_r (number116 l5 (hq l5 (by simp))) ?_
    | refine wpCall_r (number116 l6 (hq l6 (by simp))) ?_
    | refine wpCall_r (number116 l9 (hq l9 (by simp))) ?_
    | refine ⟨rfl, ?_⟩
    | refine ⟨_, rfl, ?_⟩
    | exact rfl)
  refine wpB_i ?_
  repeat' ((conv => whnf) <;> first
    | refine wpB_t rfl ?_
    | refine wpB_f rfl ?_
    | refine wpLen_i ?_
    | refine wpN_e (n := 0) rfl ?_
    | refine wpN_e (n := 1) rfl ?_
    | refine wpN_e (n := 2) rfl ?_
    | refine wpN_e (n := 3) rfl ?_
    | refine wpN_e (n := 4) rfl ?_
    | refine wpN_e (n := 5) rfl ?_
    | refine wpN_e (n := 6) rfl ?_
    | refine wpN_e (n := 7) rfl ?_
    | refine wpN_e (n := 8) rfl ?_
    | refine wpN_e (n := 9) rfl ?_
    | refine wpN_e (n := 10) rfl ?_
    | refine wpN_e (n := 11) rfl ?_
    | refine wpN_e (n := 12) rfl ?_
    | refine wpN_e (n := -1) rfl ?_
    | refine wpN_e (n := 100) rfl ?_
    | refine wpN_e (n := 1099511627776) rfl ?_
    | refine wpSide_i ⟨rfl, trivial⟩ ?_
    | refine wpSide_i trivial ?_
    | refine wpSide_i ⟨rfl, Nat.le_of_ble_eq_true rfl, Nat.le_of_ble_eq_true rfl⟩ ?_
    | refine wpSide_i ⟨rfl, rfl, Nat.le_of_ble_eq_true rfl, Nat.le_of_ble_eq_true rfl⟩ ?_
    | refine wpSide_i ⟨rfl, of_decide_eq_true rfl, of_decide_eq_true rfl⟩ ?_
    | refine wpSide_i ⟨of_decide_eq_true rfl, of_decide_eq_true rfl, of_decide_eq_true rfl, lens_of rfl⟩ ?_
    | refine wpSide_i ⟨of_decide_eq_true rfl, ⟨Nat.le_of_ble_eq_true rfl, Nat.le_of_ble_eq_true rfl⟩, Nat.le_of_ble_eq_true rfl⟩ ?_
    | refine wpSide_i ⟨lens_of rfl, rfl, Nat.le_of_ble_eq_true rfl, Nat.le_of_ble_eq_true rfl⟩ ?_
    | refine wpSide_i ⟨lens_of rfl, Nat.le_of_ble_eq_true rfl, Nat.le_of_ble_eq_true rfl⟩ ?_
    | refine wpSide_i rfl ?_
    | refine wpSide_i ⟨rfl, rfl⟩ ?_
    | refine wpIdx_i (n := 0) rfl rfl rfl ?_
    | refine wpIdx_i (n := 1) rfl rfl rfl ?_
    | refine wpIdx_i (n := 2) rfl rfl rfl ?_
    | refine wpIdx_i (n := 3) rfl rfl rfl ?_
    | refine wpIdx_i (n := 4) rfl rfl rfl ?_
    | refine wpIdx_i (n := 5) rfl rfl rfl ?_
    | refine wpIdx_i (n := 6) rfl rfl rfl ?_
    | refine wpIdx_i (n := 7) rfl rfl rfl ?_
    | refine wpIdx_i (n := 8) rfl rfl rfl ?_
    | refine wpIdx_i (n := 9) rfl rfl rfl ?_
    | refine wpIdx_i (n := 10) rfl rfl rfl ?_
    | refine wpIdx_i (n := 11) rfl rfl rfl ?_
    | refine wpIdx_i (n := 12) rfl rfl rfl ?_
    | refine wpCall_r (number116 l0 (hq l0 (by simp))) ?_
    | refine wpCall_r (number116 l1 (hq l1 (by simp))) ?_
    | refine wpCall_r (number116 l2 (hq l2 (by simp))) ?_
    | refine wpCall_r (number116 l3 (hq l3 (by simp))) ?_
    | refine wpCall_r (number116 l4 (hq l4 (by simp))) ?_
    | refine wpCall_r (number116 l5 (hq l5 (by simp))) ?_
    | refine wpCall_r (number116 l6 (hq l6 (by simp))) ?_
    | refine wpCall_r (number116 l9 (hq l9 (by simp))) ?_
    | refine ⟨rfl, ?_⟩
    | refine ⟨_, rfl, ?_⟩
    | exact rfl)
  let L10 : List Str := [l0, l1, l2, l3, l4, l5, l6, l7, l8, l9]
  have hk7 : l7.length ≤ 1048576 := hq l7 (by simp)
  have hk8 : l8.length ≤ 1048576 := hq l8 (by simp)
  refine wpB_c (fun h1 => ?_) (fun h1 => ?_)
  · have h1 : numRef l9 < 0 := by simpa using h1
    rw [if_neg (fun hh => by have : 0 ≤ numRef l9 := hh.2.2.1; omega)]
    conv => whnf
    exact retI rfl
  have h1 : ¬ numRef l9 < 0 := by simpa using h1
  repeat' ((conv => whnf) <;> first
    | refine wpB_t rfl ?_
    | refine wpB_f rfl ?_
    | refine wpLen_i ?_
    | refine wpN_e (n := 0) rfl ?_
    | refine wpN_e (n := 1) rfl ?_
    | refine wpN_e (n := 2) rfl ?_
    | refine wpN_e (n := 3) rfl ?_
    | refine wpN_e (n := 4) rfl ?_
    | refine wpN_e (n := 5) rfl ?_
    | refine wpN_e (n := 6) rfl ?_
    | refine wpN_e (n := 7) rfl ?_
    | refine wpN_e (n := 8) rfl ?_
    | refine wpN_e (n := 9) rfl ?_
    | refine wpN_e (n := 10) rfl ?_
    | refine wpN_e (n := 11) rfl ?_
    | refine wpN_e (n := 12) rfl ?_
    | refine wpN_e (n := -1) rfl ?_
    | refine wpN_e (n := 100) rfl ?_
    | refine wpN_e (n := 1099511627776) rfl ?_
    | refine wpSide_i ⟨rfl, trivial⟩ ?_
    | refine wpSide_i trivial ?_
    | refine wpSide_i ⟨rfl, Nat.le_of_ble_eq_true rfl, Nat.le_of_ble_eq_true rfl⟩ ?_
    | refine wpSide_i ⟨rfl, rfl, Nat.le_of_ble_eq_true rfl, Nat.le_of_ble_eq_true rfl⟩ ?_
    | refine wpSide_i ⟨rfl, of_decide_eq_true rfl, of_decide_eq_true rfl⟩ ?_
    | refine wpSide_i ⟨of_decide_eq_true rfl, of_decide_eq_true rfl, of_decide_eq_true rfl, lens_of rfl⟩ ?_
    | refine wpSide_i ⟨of_decide_eq_true rfl, ⟨Nat.le_of_ble_eq_true rfl, Nat.le_of_ble_eq_true rfl⟩, Nat.le_of_ble_eq_true rfl⟩ ?_
    | refine wpSide_i ⟨lens_of rfl, rfl, Nat.le_of_ble_eq_true rfl, Nat.le_of_ble_eq_true rfl⟩ ?_
    | refine wpSide_i ⟨lens_of rfl, Nat.le_of_ble_eq_true rfl, Nat.le_of_ble_eq_true rfl⟩ ?_
    | refine wpSide_i rfl ?_
    | refine wpSide_i ⟨rfl, rfl⟩ ?_
    | refine wpIdx_i (n := 0) rfl rfl rfl ?_
    | refine wpIdx_i (n := 1) rfl rfl rfl ?_
    | refine wpIdx_i (n := 2) rfl rfl rfl ?_
    | refine wpIdx_i (n := 3) rfl rfl rfl ?_
    | refine wpIdx_i (n := 4) rfl rfl rfl ?_
    | refine wpIdx_i (n := 5) rfl rfl rfl ?_
    | refine wpIdx_i (n := 6) rfl rfl rfl ?_
    | refine wpIdx_i (n := 7) rfl rfl rfl ?_
    | refine wpIdx_i (n := 8) rfl rfl rfl ?_
    | refine wpIdx_i (n := 9) rfl rfl rfl ?_
    | refine wpIdx_i (n := 10) rfl rfl rfl ?_
    | refine wpIdx_i (n := 11) rfl rfl rfl ?_
    | refine wpIdx_i (n := 12) rfl rfl rfl ?_
    | refine wpCall_r (number116 l0 (hq l0 (by simp))) ?_
    | refine wpCall_r (number116 l1 (hq l1 (by simp))) ?_
    | refine wpCall_r (number116 l2 (hq l2 (by simp))) ?_
    | refine wpCall_r (number116 l3 (hq l3 (by simp))) ?_
    | refine wpCall_r (number116 l4 (hq l4 (by simp))) ?_
    | refine wpCall_r (number116 l5 (hq l5 (by simp))) ?_
    | refine wpCall_r (number116 l6 (hq l6 (by simp))) ?_
    | refine wpCall_r (number116 l9 (hq l9 (by simp))) ?_
    | refine ⟨rfl, ?_⟩
    | refine ⟨_, rfl, ?_⟩
    | exact rfl)
  refine wpB_c (fun h2 => ?_) (fun h2 => ?_)
  · have h2 : 1 < numRef l9 := by simpa using h2
    rw [if_neg (fun hh => by have : numRef l9 ≤ 1 := hh.2.2.2.1; omega)]
    conv => whnf
    exact retI rfl
  have h2 : ¬ 1 < numRef l9 := by simpa using h2
  conv => whnf
  refine wpCall_b (Right36 (cmdR L10) hk7 hk8) (fun h3 => ?_) (fun h3 => ?_)
  · rw [if_pos ⟨rfl, rfl, by show 0 ≤ numRef l9; omega, by show numRef l9 ≤ 1; omega, h3⟩]
    conv => whnf
    exact retI rfl
  · rw [if_neg (fun hh => by rw [hh.2.2.2.2] at h3; cases h3)]
    conv => whnf
    exact retI rfl
end Go.Fw
namespace Go.Fw
/-! What is read, written, is the text: numbers, rows. -/
theorem u8_of (c : UInt8) : UInt8.ofNat c.toNat = c := by simp
theorem rdGo_inv : ∀ (s : Str) (i x : Nat) (n : Int) (r : Str), rdGo s i x = (n, r, 0) → ∃ y, s = numB y ++ r ∧ n = unzig (x + y * 128 ^ i) ∧ may n = true ∧ (0 < i → 0 < y)
  | [], i, x, n, r, h => by
    unfold rdGo at h
    split at h <;> simp at h
  | c :: t, i, x, n, r, h => by
    unfold rdGo at h
    split at h
    · simp at h
    · simp only at h
      have hc := UInt8.toNat_lt c
      split at h
      · rename_i h1
        obtain ⟨y, e1, e2, e3, e4⟩ := rdGo_inv t (i + 1) _ n r h
        have hy := e4 (by omega)
        refine ⟨c.toNat % 128 + 128 * y, ?_, ?_, e3, fun _ => by omega⟩
        · rw [numB_big (by omega)]
          have q1 : (c.toNat % 128 + 128 * y) % 128 + 128 = c.toNat := by omega
          have q2 : (c.toNat % 128 + 128 * y) / 128 = y := by omega
          rw [q1, q2, u8_of, e1]; rfl
        · rw [e2]
          congr 1
          rw [Nat.pow_succ, Nat.add_mul, Nat.mul_comm (128 ^ i) 128, ← Nat.mul_assoc, Nat.mul_comm y 128]
          omega
      · rename_i h1
        split at h
        · simp at h
        · rename_i h2
          simp only [Prod.mk.injEq, and_true] at h
          obtain ⟨h3, rfl⟩ := h
          refine ⟨c.toNat, ?_, ?_, ?_, fun hi => ?_⟩
          · rw [numB_small (by omega), u8_of]; rfl
          · rw [← h3, Nat.mod_eq_of_lt (show c.toNat < 128 by omega)]
          · cases hm : may n with
            | true => rfl
            | false => exact absurd (.inr (by rw [h3]; exact hm)) h2
          · refine Nat.pos_of_ne_zero fun h0 => h2 (.inl ⟨h0, hi⟩)
theorem zig_unzig (y : Nat) : zig (unzig y) = y := by
  unfold zig unzig
  by_cases h : y % 2 = 1
  · rw [if_pos h, if_pos (by omega)]; omega
  · rw [if_neg h, if_neg (by omega)]; omega
theorem rdN_inv {s : Str} {n : Int} {r : Str} (h : rdN s = (n, r, 0)) : s = numS n ++ r ∧ may n = true := by
  obtain ⟨y, e1, e2, e3, _⟩ := rdGo_inv s 0 0 n r h
  simp only [Nat.zero_add, Nat.pow_zero, Nat.mul_one] at e2
  refine ⟨?_, e3⟩
  rw [numS, if_pos e3, e2, zig_unzig]
  exact e1
theorem cnt_inv {s : Str} {m n : Int} {r : Str} (h : cnt s m = (n, r, 0)) : s = numS n ++ r ∧ 0 ≤ n ∧ n ≤ m := by
  unfold cnt at h
  simp only at h
  split at h
  · rename_i h1; simp at h; exact absurd h.2.2 h1
  · rename_i h1
    split at h
    · simp at h
    · split at h
      · simp at h
      · simp only [Prod.mk.injEq, and_true] at h
        have h1' : (rdN s).2.2 = 0 := by simpa using h1
        have hr : rdN s = (n, r, 0) := by rw [← h.1, ← h.2, ← h1']
        exact ⟨(rdN_inv hr).1, by omega, by omega⟩
theorem parts_inv : ∀ (k : Nat) (s : Str) (l : List Str) (r : Str), rdParts k s = (l, r, 0) → l.length = k ∧ s = items l ++ r
  | 0, s, l, r, h => by
    simp [rdParts] at h
    obtain ⟨rfl, rfl⟩ := h
    exact ⟨rfl, by simp [items]⟩
  | k + 1, s, l, r, h => by
    unfold rdParts at h
    simp only at h
    split at h
    · rename_i h1; simp at h; exact absurd h.2.2 h1
    · rename_i h1
      split at h
      · simp at h
      · rename_i h2
        split at h
        · rename_i h3; simp at h; exact absurd h.2.2 h3
        · rename_i h3
          simp only [Prod.mk.injEq, and_true] at h
          have h1' : (cnt s 4096).2.2 = 0 := by simpa using h1
          have h3' : (rdParts k (List.drop (cnt s 4096).1.toNat (cnt s 4096).2.1)).2.2 = 0 := by simpa using h3
          obtain ⟨c1, c2, c3⟩ := cnt_inv (s := s) (m := 4096) (n := (cnt s 4096).1) (r := (cnt s 4096).2.1) (by rw [← h1'])
          obtain ⟨p1, p2⟩ := parts_inv k _ (rdParts k (List.drop (cnt s 4096).1.toNat (cnt s 4096).2.1)).1 (rdParts k (List.drop (cnt s 4096).1.toNat (cnt s 4096).2.1)).2.1 (by rw [← h3'])
          rw [h.2] at p2
          generalize hq : rdParts k (List.drop (cnt s 4096).1.toNat (cnt s 4096).2.1) = q at *
          generalize hc : cnt s 4096 = c at *
          obtain ⟨n, t, e⟩ := c
          simp only at *
          rw [← h.1]
          refine ⟨by simp [p1], ?_⟩
          have hl : ((t.take n.toNat).length : Int) = n := by rw [List.length_take]; omega
          have e1 : items (t.take n.toNat :: q.1) ++ r = numS n ++ (t.take n.toNat ++ (items q.1 ++ r)) := by
            simp only [items, List.map_cons, List.flatten_cons, item, hl, List.append_assoc]
          rw [e1, ← p2, List.take_append_drop, ← c1]
theorem rdRow_inv {s : Str} {l : List Str} (h : rdRow s = (l, 0)) : s = numS l.length ++ items l := by
  unfold rdRow at h
  simp only at h
  split at h
  · rename_i h1; simp at h; exact absurd h.2 h1
  · rename_i h1
    split at h
    · rename_i h2; simp at h; exact absurd h.2 h2
    · rename_i h2
      split at h
      · simp at h
      · rename_i h3
        simp only [Prod.mk.injEq, and_true] at h
        have h1' : (cnt s 256).2.2 = 0 := by simpa using h1
        have h2' : (rdParts (cnt s 256).1.toNat (cnt s 256).2.1).2.2 = 0 := by simpa using h2
        have h3' : (rdParts (cnt s 256).1.toNat (cnt s 256).2.1).2.1 = [] := by simpa using h3
        obtain ⟨c1, c2, c3⟩ := cnt_inv (s := s) (m := 256) (n := (cnt s 256).1) (r := (cnt s 256).2.1) (by rw [← h1'])
        obtain ⟨p1, p2⟩ := parts_inv _ _ l [] (by rw [← h, ← h3', ← h2'])
        rw [List.append_nil] at p2
        have e : ((l.length : Nat) : Int) = (cnt s 256).1 := by omega
        rw [e, ← p2]
        exact c1
theorem numRef_inv {s : Str} (h : 0 ≤ numRef s) : s = numS (numRef s) ∧ may (numRef s) = true ∧ rdN s = (numRef s, [], 0) := by
  unfold numRef at h ⊢
  split
  · rename_i h1; rw [if_pos h1] at h; omega
  · rename_i h1
    have h2 : (rdN s).2.2 = 0 := Classical.byContradiction fun q => h1 (.inl q)
    have h3 : (rdN s).2.1 = [] := Classical.byContradiction fun q => h1 (.inr q)
    have hr : rdN s = ((rdN s).1, [], 0) := by rw [← h2, ← h3]
    have := rdN_inv hr
    rw [List.append_nil] at this
    exact ⟨this.1, this.2, hr⟩
theorem numRef_numS {n : Int} (h : may n = true) : numRef (numS n) = n := by
  have := rdN_numS h []
  rw [List.append_nil] at this
  unfold numRef
  rw [this]
  simp
end Go.Fw
namespace Go.Fw
theorem cmdR_textL {c : Cmd} (h : shopRight c = true) : cmdR (textL c) = c ∧ lastR (textL c) = yesN c.yes := by
  have hm := right_may h
  have hy : numRef (numS (yesN c.yes)) = yesN c.yes := numRef_numS (by cases c.yes <;> rfl)
  refine ⟨?_, hy⟩
  simp only [textL, cmdR]
  rw [hy, numRef_numS (hm c.kind (by simp)), numRef_numS (hm c.a (by simp)), numRef_numS (hm c.b (by simp)), numRef_numS (hm c.c (by simp)), numRef_numS (hm c.d (by simp)), numRef_numS (hm c.e (by simp)), numRef_numS (hm c.f (by simp))]
  have e : decide (yesN c.yes = 1) = c.yes := by cases c.yes <;> rfl
  rw [e]
theorem right_nonneg {c : Cmd} (h : shopRight c = true) : ∀ n ∈ [c.kind, c.a, c.b, c.c, c.d, c.e, c.f], 0 ≤ n := by
  simp only [shopRight, Bool.and_eq_true] at h
  have h1 := h.1
  have h3 := h.2.2.1
  simp only [decide_eq_true_eq] at h1
  have hn : ∀ (f : Str) (l : List Int) (i : Nat), numsOK f l i = true → ∀ n ∈ l, 0 ≤ n := by
    intro f l
    induction l with
    | nil => intro i _ n hn; cases hn
    | cons x l ih =>
      intro i h n hn
      simp only [numsOK, Bool.and_eq_true] at h
      rcases List.mem_cons.1 hn with q | q
      · subst q
        have := h.1
        simp only [num40, Bool.and_eq_true, decide_eq_true_eq] at this
        exact this.1
      · exact ih _ h.2.2 n q
  intro n hm
  rcases List.mem_cons.1 hm with q | q
  · subst q; omega
  · exact hn _ _ _ h3 n q
theorem cmdR_inv {l : List Str} (hl : l.length = 10) (h : shopRight (cmdR l) = true) (h0 : 0 ≤ lastR l) (h1 : lastR l ≤ 1) : l = textL (cmdR l) := by
  obtain ⟨l0, l1, l2, l3, l4, l5, l6, l7, l8, l9, rfl⟩ := ten hl
  have hn := right_nonneg h
  have q0 := (numRef_inv (s := l0) (hn _ (by simp [cmdR]))).1
  have q1 := (numRef_inv (s := l1) (hn _ (by simp [cmdR]))).1
  have q2 := (numRef_inv (s := l2) (hn _ (by simp [cmdR]))).1
  have q3 := (numRef_inv (s := l3) (hn _ (by simp [cmdR]))).1
  have q4 := (numRef_inv (s := l4) (hn _ (by simp [cmdR]))).1
  have q5 := (numRef_inv (s := l5) (hn _ (by simp [cmdR]))).1
  have q6 := (numRef_inv (s := l6) (hn _ (by simp [cmdR]))).1
  have h0' : 0 ≤ numRef l9 := h0
  have h1' : numRef l9 ≤ 1 := h1
  have q9 := (numRef_inv h0').1
  have ey : yesN (decide (numRef l9 = 1)) = numRef l9 := by
    by_cases hh : numRef l9 = 1
    · simp [hh, yesN]
    · have : numRef l9 = 0 := by omega
      simp [this, yesN]
  simp only [textL, cmdR]
  rw [ey, ← q0, ← q1, ← q2, ← q3, ← q4, ← q5, ← q6, ← q9]
theorem readR_eq (s : Str) : readR s = ((readC s).1, decide ((readC s).2 = 0)) := by
  by_cases hC : (readC s).2 = 0
  · obtain ⟨h1, h2⟩ := readC_ok hC
    generalize (readC s).1 = c at h1 h2
    have hr := (textE_iff c).1 h1
    have e1 : textS c = rowS (textL c) := by rw [textS, hr]; rfl
    have e3 : rdRow s = (textL c, 0) := by rw [← h2, e1]; exact rdRow_rowS (textL_rowMay hr)
    obtain ⟨g1, g2⟩ := cmdR_textL hr
    rw [readR, e3, hC]
    have hb : 0 ≤ yesN c.yes ∧ yesN c.yes ≤ 1 := by cases c.yes <;> decide
    rw [if_pos ⟨rfl, rfl, by rw [g2]; exact hb.1, by rw [g2]; exact hb.2, by rw [g1]; exact hr⟩, g1]
    rfl
  · rw [readC_bad hC]
    have : decide ((readC s).2 = 0) = false := by simp [hC]
    rw [this]
    unfold readR
    rw [if_neg]
    rintro ⟨h0, h10, h1, h2, h3⟩
    have hl := cmdR_inv h10 h3 h1 h2
    have hs := rdRow_inv (s := s) (l := (rdRow s).1) (by rw [← h0])
    have e1 : textS (cmdR (rdRow s).1) = s := by
      rw [textS, h3]
      show rowS (textL (cmdR (rdRow s).1)) = s
      rw [← hl, rowS, if_pos (by rw [hl]; exact textL_rowMay h3)]
      exact hs.symm
    have := read_text h3
    rw [e1] at this
    rw [this] at hC
    exact hC rfl
end Go.Fw
namespace Go.Fw
open Go Go.Proofs.Tryz
variable {I : CallRel}
theorem readC_five (s : Str) : (readC s).2 = 0 ∨ (readC s).2 = 5 := by
  unfold readC
  split
  · exact .inl rfl
  · exact .inr rfl
theorem cutC_len (c : Cmd) : (cutC c).sku.length ≤ 1048576 ∧ (cutC c).to.length ≤ 1048576 := by
  simp only [cutC, List.length_take]; omega
set_option maxRecDepth 100000 in
set_option maxHeartbeats 4000000 in
theorem Texts6 (hA : PCX I 28 [] [] (.ret (AV.bool true)) []) (c : Cmd) (s : Str) : PCX I 6 [c.av, .str s] [] (.ret (AV.bool true)) [] := by
  refine pcall_intro func6 rfl rfl ?_
  conv => whnf
  refine wpRegD_i rfl ?_
  conv => whnf
  refine wpCall_r (cut23 c) ?_
  have hcl := cutC_len c
  generalize cutC c = c at hcl
  repeat' ((conv => whnf) <;> first
    | refine wpB_t rfl ?_
    | refine wpB_f rfl ?_
    | refine wpLen_i ?_
    | refine wpN_e (n := 0) rfl ?_
    | refine wpN_e (n := -1) rfl ?_
    | refine wpN_e (n := 100) rfl ?_
    | refine wpN_e (n := 1099511627776) rfl ?_
    | refine wpRegD_i rfl ?_
    | refine wpSide_i ⟨rfl, trivial⟩ ?_
    | refine wpSide_i trivial ?_
    | refine wpSide_i ⟨rfl, Nat.le_of_ble_eq_true rfl, Nat.le_of_ble_eq_true rfl⟩ ?_
    | refine wpSide_i ⟨rfl, rfl, Nat.le_of_ble_eq_true rfl, Nat.le_of_ble_eq_true rfl⟩ ?_
    | refine wpSide_i ⟨rfl, of_decide_eq_true rfl, of_decide_eq_true rfl⟩ ?_
    | refine wpSide_i ⟨of_decide_eq_true rfl, of_decide_eq_true rfl, of_decide_eq_true rfl, lens_of rfl⟩ ?_
    | refine wpSide_i ⟨of_decide_eq_true rfl, ⟨Nat.le_of_ble_eq_true rfl, Nat.le_of_ble_eq_true rfl⟩, Nat.le_of_ble_eq_true rfl⟩ ?_
    | refine wpSide_i ⟨lens_of rfl, rfl, Nat.le_of_ble_eq_true rfl, Nat.le_of_ble_eq_true rfl⟩ ?_
    | refine wpSide_i ⟨lens_of rfl, Nat.le_of_ble_eq_true rfl, Nat.le_of_ble_eq_true rfl⟩ ?_
    | refine wpSide_i rfl ?_
    | refine wpSide_i ⟨rfl, rfl⟩ ?_
    | refine wpIdx_i (n := 0) rfl rfl rfl ?_
    | refine wpCall_r (cut23 _) ?_
    | refine ⟨rfl, ?_⟩
    | refine ⟨_, rfl, ?_⟩
    | exact rfl)
  refine wpN_e (min_e s.length 200) ?_
  repeat' ((conv => whnf) <;> first
    | refine wpB_t rfl ?_
    | refine wpB_f rfl ?_
    | refine wpLen_i ?_
    | refine wpN_e (n := 0) rfl ?_
    | refine wpN_e (n := -1) rfl ?_
    | refine wpN_e (n := 100) rfl ?_
    | refine wpN_e (n := 1099511627776) rfl ?_
    | refine wpRegD_i rfl ?_
    | refine wpSide_i ⟨rfl, trivial⟩ ?_
    | refine wpSide_i trivial ?_
    | refine wpSide_i ⟨rfl, Nat.le_of_ble_eq_true rfl, Nat.le_of_ble_eq_true rfl⟩ ?_
    | refine wpSide_i ⟨rfl, rfl, Nat.le_of_ble_eq_true rfl, Nat.le_of_ble_eq_true rfl⟩ ?_
    | refine wpSide_i ⟨rfl, of_decide_eq_true rfl, of_decide_eq_true rfl⟩ ?_
    | refine wpSide_i ⟨of_decide_eq_true rfl, of_decide_eq_true rfl, of_decide_eq_true rfl, lens_of rfl⟩ ?_
    | refine wpSide_i ⟨of_decide_eq_true rfl, ⟨Nat.le_of_ble_eq_true rfl, Nat.le_of_ble_eq_true rfl⟩, Nat.le_of_ble_eq_true rfl⟩ ?_
    | refine wpSide_i ⟨lens_of rfl, rfl, Nat.le_of_ble_eq_true rfl, Nat.le_of_ble_eq_true rfl⟩ ?_
    | refine wpSide_i ⟨lens_of rfl, Nat.le_of_ble_eq_true rfl, Nat.le_of_ble_eq_true rfl⟩ ?_
    | refine wpSide_i rfl ?_
    | refine wpSide_i ⟨rfl, rfl⟩ ?_
    | refine wpIdx_i (n := 0) rfl rfl rfl ?_
    | refine wpCall_r (cut23 _) ?_
    | refine ⟨rfl, ?_⟩
    | refine ⟨_, rfl, ?_⟩
    | exact rfl)
  refine wpSide_i ⟨by omega, by omega, by omega⟩ ?_
  rw [take_min]
  have hs : (s.take 200).length ≤ 1048576 := by simp only [List.length_take]; omega
  generalize s.take 200 = s at hs
  repeat' ((conv => whnf) <;> first
    | refine wpB_t rfl ?_
    | refine wpB_f rfl ?_
    | refine wpLen_i ?_
    | refine wpN_e (n := 0) rfl ?_
    | refine wpN_e (n := -1) rfl ?_
    | refine wpN_e (n := 100) rfl ?_
    | refine wpN_e (n := 1099511627776) rfl ?_
    | refine wpRegD_i rfl ?_
    | refine wpSide_i ⟨rfl, trivial⟩ ?_
    | refine wpSide_i trivial ?_
    | refine wpSide_i ⟨rfl, Nat.le_of_ble_eq_true rfl, Nat.le_of_ble_eq_true rfl⟩ ?_
    | refine wpSide_i ⟨rfl, rfl, Nat.le_of_ble_eq_true rfl, Nat.le_of_ble_eq_true rfl⟩ ?_
    | refine wpSide_i ⟨rfl, of_decide_eq_true rfl, of_decide_eq_true rfl⟩ ?_
    | refine wpSide_i ⟨of_decide_eq_true rfl, of_decide_eq_true rfl, of_decide_eq_true rfl, lens_of rfl⟩ ?_
    | refine wpSide_i ⟨of_decide_eq_true rfl, ⟨Nat.le_of_ble_eq_true rfl, Nat.le_of_ble_eq_true rfl⟩, Nat.le_of_ble_eq_true rfl⟩ ?_
    | refine wpSide_i ⟨lens_of rfl, rfl, Nat.le_of_ble_eq_true rfl, Nat.le_of_ble_eq_true rfl⟩ ?_
    | refine wpSide_i ⟨lens_of rfl, Nat.le_of_ble_eq_true rfl, Nat.le_of_ble_eq_true rfl⟩ ?_
    | refine wpSide_i rfl ?_
    | refine wpSide_i ⟨rfl, rfl⟩ ?_
    | refine wpIdx_i (n := 0) rfl rfl rfl ?_
    | refine wpCall_r (cut23 _) ?_
    | refine ⟨rfl, ?_⟩
    | refine ⟨_, rfl, ?_⟩
    | exact rfl)
  refine wpCall_r (Text32 c) ?_
  conv => whnf
  have hR3 := Read33 (I := I) s hs
  have hR4 := Read34 (I := I) s hs
  rw [readR_eq] at hR4
  have hbad := @readC_bad s
  have hfive := readC_five s
  generalize readC s = p at hbad hR3 hR4 hfive
  obtain ⟨x, e⟩ := p
  simp only at hbad hR3 hR4 hfive
  refine wpCall_r hR3 ?_
  conv => whnf
  obtain ⟨q, hq⟩ : ∃ q, decide (e = 0) = q := ⟨_, rfl⟩
  rw [hq] at hR4
  have hE : textE c = bif shopRight c then 0 else 1 := rfl
  have hS : shopRight c = false → textS c = [] := fun h => by rw [textS, h]; rfl
  cases q
  · have he : e = 5 := by
      rcases hfive with h | h
      · subst h; simp at hq
      · exact h
    subst he
    refine wpCall_r hR4 ?_
    conv => whnf
    refine wpRegD_i rfl ?_
    conv => whnf
    refine wpCall_r (Right35 c) ?_
    conv => whnf
    refine wpCall_r (Right36 c hcl.1 hcl.2) ?_
    conv => whnf
    refine wpB_f (by simp) ?_
    conv => whnf
    refine wpB_f (by simp) ?_
    conv => whnf
    refine wpB_f rfl ?_
    conv => whnf
    refine wpCall_r hA ?_
    conv => whnf
    refine ⟨rfl, ?_⟩
    conv => whnf
    refine wpCall_b (Right36 c hcl.1 hcl.2) (fun h => ?_) (fun h => ?_)
    · conv => whnf
      rw [hE, h]
      refine wpB_t rfl ?_
      conv => whnf
      refine wpCall_r (Text37 c h) ?_
      conv => whnf
      refine wpB_t (by simp) ?_
      exact retI rfl
    · conv => whnf
      rw [hE, h]
      refine wpB_t rfl ?_
      conv => whnf
      rw [hS h]
      refine wpB_t rfl ?_
      exact retI rfl
  · have he : e = 0 := by simpa using hq
    subst he
    refine wpCall_r hR4 ?_
    conv => whnf
    refine wpRegD_i rfl ?_
    conv => whnf
    refine wpCall_r (Right35 c) ?_
    conv => whnf
    refine wpCall_r (Right36 c hcl.1 hcl.2) ?_
    conv => whnf
    refine wpB_f (by simp) ?_
    conv => whnf
    refine wpB_f (by simp) ?_
    conv => whnf
    refine wpB_f rfl ?_
    conv => whnf
    refine wpCall_r hA ?_
    conv => whnf
    refine ⟨rfl, ?_⟩
    conv => whnf
    refine wpCall_b (Right36 c hcl.1 hcl.2) (fun h => ?_) (fun h => ?_)
    · conv => whnf
      rw [hE, h]
      refine wpB_t rfl ?_
      conv => whnf
      refine wpCall_r (Text37 c h) ?_
      conv => whnf
      refine wpB_t (by simp) ?_
      exact retI rfl
    · conv => whnf
      rw [hE, h]
      refine wpB_t rfl ?_
      conv => whnf
      rw [hS h]
      refine wpB_t rfl ?_
      exact retI rfl
end Go.Fw
