/- A part of the proof of Rows.ShopBackSaid: what ShopBack answers, whatever the arguments; it stands under no condition. -/
import Derived.Test.YtdehaflkiobnlaaGreatBack14
import Derived.Test.YtdehaflkiobnlaaGreatBack09
set_option linter.unusedVariables false
set_option linter.unusedSimpArgs false
set_option linter.unusedSectionVars false
set_option linter.deprecated false
namespace Go.Fw
open Go Go.Proofs.Tryz
variable {I : CallRel}
def mayF (f : Str) (r : Int) (s : Str) : Bool := bif hasR f r then nameOK s else decide (s = [])
set_option maxRecDepth 100000 in
theorem may118 (f : Str) (hf : ascii f) (r : Int) (s : Str) : PCX I 118 [AV.r32 r, AV.str s, .one (.pv [.v (vS f)] 0)] [] (.ret (.bool (mayF f r s))) [] := by
  refine pcall_intro func118 rfl rfl ?_
  conv => whnf
  refine wpCall_b (hasRune119 f r hf) (fun h => ?_) (fun h => ?_)
  · conv => whnf
    refine wpCall_r (name120 s) ?_
    refine retI (congrArg AV.bool (?_ : _ = mayF f r s))
    simp [mayF, h]
  · conv => whnf
    refine wpB_i ?_
    refine retI (congrArg AV.bool (?_ : _ = mayF f r s))
    simp [mayF, h]
abbrev Cmd.av (c : Cmd) : AV := .w (.agg [.p (.v (vI c.kind)), .p (.v (vS c.sku)), .p (.v (vS c.to)), .p (.v (vI c.a)), .p (.v (vI c.b)), .p (.v (vI c.c)), .p (.v (vI c.d)), .p (.v (vI c.e)), .p (.v (vI c.f)), .p (.v (.bool c.yes))])
abbrev Cmd.ns (c : Cmd) : List Int := [c.a, c.b, c.c, c.d, c.e, c.f]
def iE (n : Int) : List Value := [vI n]
def numsOK (f : Str) : List Int → Nat → Bool
  | [], _ => true
  | n :: l, i => num40 n && ((decide (n = 0) || hasR f (65 + i)) && numsOK f l (i + 1))
def fieldsOf (k : Int) : Str := hasL.getD k.toNat []
def shopRight (c : Cmd) : Bool := decide (1 ≤ c.kind) && (decide (c.kind < 13) && (numsOK (fieldsOf c.kind) c.ns 0 &&
  (mayF (fieldsOf c.kind) 115 c.sku && (mayF (fieldsOf c.kind) 116 c.to && (!c.yes || hasR (fieldsOf c.kind) 121)))))
theorem hasL_ascii {k : Nat} {f : Str} (h : hasL[k]? = some f) : ascii f := by
  have h1 : ∀ f ∈ hasL, ∀ c ∈ f, c.toNat < 128 := by decide
  exact h1 f (List.mem_of_getElem? h)
theorem wrap32 {n : Int} (h1 : -2147483648 ≤ n) (h2 : n ≤ 2147483647) : IntKind.wrap .i32 n = n := by
  simp only [IntKind.wrap, IntKind.bits, IntKind.signed]; simp; omega
set_option maxRecDepth 100000 in
set_option maxHeartbeats 1000000 in
theorem Right35 (c : Cmd) : PCX I 35 [c.av] [] (.ret (.bool (shopRight c))) [] := by
  refine pcall_intro func35 rfl rfl ?_
  conv => whnf
  refine wpRegD_i rfl ?_
  conv => whnf
  refine wpB_c (fun h => ?_) (fun h => ?_)
  · refine ⟨rfl, ?_⟩
    exact retI (congrArg AV.bool (by simp at h; simp [shopRight]; omega))
  · conv => whnf
    refine wpCall_r has117 ?_
    conv => whnf
    refine wpLen_i ?_
    conv => whnf
    refine wpB_c (fun h2 => ?_) (fun h2 => ?_)
    · refine ⟨rfl, ?_⟩
      exact retI (congrArg AV.bool (by simp [hasL] at h2; simp [shopRight]; omega))
    · refine ⟨rfl, ?_⟩
      conv => whnf
      refine wpRegD_i rfl ?_
      conv => whnf
      refine wpCall_r has117 ?_
      conv => whnf
      have h1 : 1 ≤ c.kind := by simp at h; omega
      have h13 : c.kind < 13 := by simp [hasL] at h2; omega
      obtain ⟨k, hk⟩ : ∃ k : Nat, c.kind = k := ⟨c.kind.toNat, by omega⟩
      obtain ⟨f, hf⟩ := get_lt (l := hasL) (i := k) (by show k < 13; omega)
      have hfa := hasL_ascii hf
      have hfo : fieldsOf c.kind = f := by rw [fieldsOf, hk, List.getD_eq_getElem?_getD, Int.toNat_natCast, hf]; rfl
      refine wpSide_i trivial (wpIdx_i (n := k) hk (get_map sE hf) rfl ?_)
      refine ⟨rfl, ?_⟩
      conv => whnf
      refine ⟨⟨.ret _, _, numbers109 _ _ _ _ _ _ _ _ _ _, ?_⟩⟩
      conv => whnf
      refine wpSide_i rfl (wpLen_i ?_)
      conv => whnf
      refine loop_rule (fun i : Nat => mkS [(1, .one (.ptr 0 0)), (3, .one (.ptr 1 0)), (4, .one (.fn 118 [] [.pv [.v (vS f)]])), (24, .one (.ref 2 6)), (25, .int 6), (26, .int i)]
          [(0, .vars [.p (.v (vI c.kind)), .p (.v (vS c.sku)), .p (.v (vS c.to)), .p (.v (vI c.a)), .p (.v (vI c.b)), .p (.v (vI c.c)), .p (.v (vI c.d)), .p (.v (vI c.e)), .p (.v (vI c.f)), .p (.v (.bool c.yes))]), (1, .imm [.v (vS f)]), (2, .vec 3 (c.ns.map iE) false)] 3 66 0)
        (fun i => i ≤ 6 ∧ numsOK f (c.ns.drop i) i = numsOK f c.ns 0) (fun i => 6 - i) 0 ?_ ?_ ?_
      · exact le_mkS ⟨.inl ⟨rfl, rfl⟩, .inl ⟨rfl, rfl⟩, .inl ⟨rfl, rfl⟩, .inl ⟨rfl, rfl⟩, .inl ⟨rfl, rfl⟩, .inl ⟨rfl, rfl⟩, trivial⟩ ⟨.inl ⟨rfl, rfl⟩, .inl ⟨rfl, rfl⟩, .inl ⟨rfl, rfl⟩, trivial⟩ rfl rfl
      · simp
      · intro i ⟨hi, hq⟩ next hnext
        conv => whnf
        refine wpB_c (fun h3 => ?_) (fun h3 => ?_)
        · have hlt : i < c.ns.length := by simp at h3; show i < 6; omega
          obtain ⟨x, hx⟩ := get_lt hlt
          conv => whnf
          have hlt6 : i < 6 := hlt
          refine wpSide_i ⟨rfl, by omega, by show (i : Int) < 6; omega⟩ ?_
          conv => whnf
          refine wpSide_i rfl (wpIdx_i (n := i) rfl (get_map iE hx) rfl ?_)
          conv => whnf
          refine wpCall_b (num121 x) (fun h4 => ?_) (fun h4 => ?_)
          · conv => whnf
            refine wpB_c (fun h5 => ?_) (fun h5 => ?_)
            · conv => whnf
              refine wpN_e (n := 65 + (i : Int)) (wrap64 (by omega) (by omega)) ?_
              conv => whnf
              refine wpN_e (n := 65 + (i : Int)) (wrap32 (by omega) (by omega)) ?_
              conv => whnf
              refine wpCall_b (hasRune119 f (65 + i) hfa) (fun h6 => ?_) (fun h6 => ?_)
              · conv => whnf
                refine wpN_succ hlt6 (by omega) ?_
                refine hnext (i + 1) _ ⟨hlt6, ?_⟩ (by omega) ?_
                · rw [← hq, drop_get hx]; simp [numsOK, h4, h6]
                · exact le_mkS ⟨.inl ⟨rfl, rfl⟩, .inl ⟨rfl, rfl⟩, .inl ⟨rfl, rfl⟩, .inl ⟨rfl, rfl⟩, .inl ⟨rfl, rfl⟩, .inl ⟨rfl, rfl⟩, trivial⟩ ⟨.inl ⟨rfl, rfl⟩, .inl ⟨rfl, rfl⟩, .inl ⟨rfl, rfl⟩, trivial⟩ rfl rfl
              · refine retI (congrArg AV.bool (?_ : _ = shopRight c))
                have hx0 : x ≠ 0 := by simpa using h5
                have e1 : numsOK f c.ns 0 = false := by rw [← hq, drop_get hx]; simp [numsOK, h6, hx0]
                simp [shopRight, hfo, e1]
            · conv => whnf
              have hx0 : x = 0 := by simpa using h5
              refine wpN_succ hlt6 (by omega) ?_
              refine hnext (i + 1) _ ⟨hlt6, ?_⟩ (by omega) ?_
              · rw [← hq, drop_get hx]; simp [numsOK, hx0, show num40 0 = true from rfl]
              · exact le_mkS ⟨.inl ⟨rfl, rfl⟩, .inl ⟨rfl, rfl⟩, .inl ⟨rfl, rfl⟩, .inl ⟨rfl, rfl⟩, .inl ⟨rfl, rfl⟩, .inl ⟨rfl, rfl⟩, trivial⟩ ⟨.inl ⟨rfl, rfl⟩, .inl ⟨rfl, rfl⟩, .inl ⟨rfl, rfl⟩, trivial⟩ rfl rfl
          · refine retI (congrArg AV.bool (?_ : _ = shopRight c))
            have e1 : numsOK f c.ns 0 = false := by rw [← hq, drop_get hx]; simp [numsOK, h4]
            simp [shopRight, hfo, e1]
        · have : i = 6 := by simp at h3; omega
          subst this
          conv => whnf
          refine wpCall_b (may118 f hfa 115 c.sku) (fun h4 => ?_) (fun h4 => ?_)
          · conv => whnf
            refine wpCall_b (may118 f hfa 116 c.to) (fun h5 => ?_) (fun h5 => ?_)
            · conv => whnf
              have e0 : shopRight c = (!c.yes || hasR f 121) := by
                have e1 : numsOK f c.ns 0 = true := by rw [← hq]; rfl
                simp [shopRight, hfo, e1, h1, h13, h4, h5]
              rw [e0]
              generalize c.yes = y
              cases y
              · exact retI rfl
              · conv => whnf
                refine wpCall_r (hasRune119 f 121 hfa) ?_
                exact retI rfl
            · refine retI (congrArg AV.bool (?_ : _ = shopRight c))
              simp [shopRight, hfo, h5]
          · refine retI (congrArg AV.bool (?_ : _ = shopRight c))
            simp [shopRight, hfo, h4]
end Go.Fw
namespace Go.Fw
open Go Go.Proofs.Tryz
variable {I : CallRel}
/-! pack: numbers -/
def may (n : Int) : Bool := decide (-1152921504606846976 ≤ n) && decide (n ≤ 1152921504606846976)
def numB (x : Nat) : Str := if x < 128 then [UInt8.ofNat x] else UInt8.ofNat (x % 128 + 128) :: numB (x / 128)
def zig (n : Int) : Nat := if n < 0 then (-2 * n - 1).toNat else (2 * n).toNat
def numS (n : Int) : Str := if may n then numB (zig n) else []
def numE (n : Int) : Int := if may n then 0 else 1
theorem wrapU8 (n : Nat) : IntKind.wrap .u8 (n : Int) = ((UInt8.ofNat n).toNat : Int) := by
  simp [IntKind.wrap, IntKind.bits, IntKind.signed]
theorem may_iff (n : Int) : may n = true ↔ -1152921504606846976 ≤ n ∧ n ≤ 1152921504606846976 := by simp [may]
set_option maxRecDepth 100000 in
theorem may224 (n : Int) : PCX I 224 [AV.int n] [] (.ret (AV.bool (may n))) [] := by
  refine pcall_intro func224 rfl rfl ?_
  repeat' ((conv => whnf); first | refine wpB_c (fun h => ?_) (fun h => ?_))
  all_goals
    refine retI (congrArg AV.bool (?_ : _ = may n))
    simp_all [may]
    try omega
theorem byteRow_snoc (l : Str) (c : UInt8) : byteRow l ++ [[.int .u8 c.toNat]] = byteRow (l ++ [c]) := by simp [byteRow]
theorem byteRow_len (l : Str) : (byteRow l).length = l.length := by simp [byteRow]
theorem zig_le {n : Int} (h : may n = true) : zig n ≤ 2305843009213693952 := by
  have := (may_iff n).1 h
  unfold zig
  split <;> omega
theorem div128 (x : Nat) : (x : Int).tdiv 128 = ((x / 128 : Nat) : Int) := by rw [Int.tdiv_eq_ediv_of_nonneg (by omega)]; rfl
theorem mod128 (x : Nat) : (x : Int).tmod 128 = ((x % 128 : Nat) : Int) := by rw [Int.tmod_eq_emod_of_nonneg (by omega)]; rfl
theorem numB_le : ∀ (k x : Nat), x < 128 ^ (k + 1) → (numB x).length ≤ k + 1
  | 0, x, h => by
    unfold numB
    rw [if_pos (by omega)]; simp
  | k + 1, x, h => by
    unfold numB
    split
    · simp
    · have := numB_le k (x / 128) (by rw [Nat.pow_succ] at h; omega)
      simp; omega
theorem numB_zig {n : Int} (h : may n = true) : (numB (zig n)).length ≤ 9 := numB_le 8 _ (by have := zig_le h; omega)
theorem numB_small {x : Nat} (h : x < 128) : numB x = [UInt8.ofNat x] := by unfold numB; rw [if_pos h]
theorem numB_big {x : Nat} (h : ¬ x < 128) : numB x = UInt8.ofNat (x % 128 + 128) :: numB (x / 128) := by rw [numB]; rw [if_neg h]
set_option maxRecDepth 100000 in
theorem Number110 (n : Int) : PCX I 110 [AV.int n] [] (.ret (.tup [.one (.p (.v (vS (numS n)))), .one (.p (.v (vI (numE n))))])) [] := by
  refine pcall_intro func110 rfl rfl ?_
  conv => whnf
  refine wpCall_b (may224 n) (fun h => ?_) (fun h => ?_)
  · have hm := (may_iff n).1 h
    have hz := zig_le h
    have hl := numB_zig h
    conv => whnf
    refine wpN_e (n := 2 * n) (wrap64 (by omega) (by omega)) ?_
    conv => whnf
    refine wpB_c (fun h2 => ?neg) (fun h2 => ?pos)
    case' neg =>
      have hn : n < 0 := by simpa using h2
      conv => whnf
      refine wpN_e (n := -2 * n) (wrap64 (by omega) (by omega)) ?_
      conv => whnf
      refine wpN_e (n := ((zig n : Nat) : Int)) (by rw [wrap64 (by omega) (by omega)]; unfold zig; rw [if_pos hn]; omega) ?_
    case' pos =>
      have hn : ¬ n < 0 := by simpa using h2
      have e2 : 2 * n = ((zig n : Nat) : Int) := by unfold zig; rw [if_neg hn]; omega
      rw [e2]
    all_goals
      conv => whnf
      refine loop_rule (fun p : Str × Nat => mkS [(4, .int (p.2 : Int)), (5, .one (.ref 0 (byteRow p.1).length))] [(0, .vec 5 (byteRow p.1) false)] 1 33 0) (fun p => p.1 ++ numB p.2 = numB (zig n) ∧ p.2 ≤ 2305843009213693952) (fun p => p.2) ([], zig n) ?_ ?_ ?_
      · exact le_mkS ⟨.inl ⟨rfl, rfl⟩, .inr ⟨0, rfl, newT rfl rfl rfl (Nat.zero_lt_succ _)⟩, trivial⟩ ⟨.inr ⟨rfl, _, rfl, Nat.zero_lt_succ _⟩, trivial⟩ rfl rfl
      · exact ⟨rfl, hz⟩
      · rintro ⟨d, x⟩ ⟨hd, hx⟩ next hnext
        simp only at hd hx ⊢
        have hdl : d.length + (numB x).length ≤ 9 := by rw [← List.length_append, hd]; exact hl
        conv => whnf
        refine wpB_c (fun h3 => ?_) (fun h3 => ?_)
        · have h3 : ¬ x < 128 := by simp at h3; omega
          conv => whnf
          refine wpSide_i (by decide) ?_
          refine wpN_e (mod128 x) ?_
          conv => whnf
          refine wpN_e (n := ((x % 128 + 128 : Nat) : Int)) (by rw [wrap64 (by omega) (by omega)]; omega) ?_
          conv => whnf
          refine wpN_e (wrapU8 _) ?_
          conv => whnf
          refine wpSide_i ⟨rfl, rfl, ⟨(?_ : (_ + 1) * 1 ≤ _), (?_ : _ + 1 ≤ _)⟩⟩ ?_
          · rw [byteRow_len]; omega
          · rw [byteRow_len]; omega
          conv => whnf
          refine wpSide_i (by decide) ?_
          refine wpN_e (n := ((x / 128 : Nat) : Int)) (by rw [div128, wrap64 (by omega) (by omega)]) ?_
          conv => whnf
          refine hnext (d ++ [UInt8.ofNat (x % 128 + 128)], x / 128) _ ⟨?_, ?_⟩ ?_ ?_
          · rw [← hd, numB_big h3]; simp
          · simp only; omega
          · simp only; omega
          · simp only [← byteRow_snoc]
            refine le_mkS ⟨.inl ⟨rfl, rfl⟩, .inl ⟨by simp; rfl, rfl⟩, trivial⟩ ⟨.inl ⟨rfl, rfl⟩, trivial⟩ rfl rfl
        · have h3 : x < 128 := by simp at h3; omega
          conv => whnf
          refine wpN_e (wrapU8 _) ?_
          conv => whnf
          refine wpSide_i ⟨rfl, rfl, ⟨(?_ : (_ + 1) * 1 ≤ _), (?_ : _ + 1 ≤ _)⟩⟩ ?_
          · rw [byteRow_len]; omega
          · rw [byteRow_len]; omega
          conv => whnf
          refine wpSide_i (by simp) ⟨⟨d ++ [UInt8.ofNat x], byteRow_snoc _ _, ?_⟩⟩
          conv => whnf
          refine retI ?_
          rw [numS, if_pos h, ← hd, numB_small h3, numE, if_pos h]
          rfl
  · conv => whnf
    exact retI (by simp [numS, numE, h]; rfl)
end Go.Fw
namespace Go.Fw
open Go Go.Proofs.Tryz
variable {I : CallRel}
/-! pack: numbers are read -/
def unzig (x : Nat) : Int := if x % 2 = 1 then -((x / 2 : Nat) : Int) - 1 else ((x / 2 : Nat) : Int)
def rdGo : Str → Nat → Nat → Int × Str × Int
  | [], i, _ => if 9 ≤ i then (0, [], 3) else (0, [], 4)
  | c :: r, i, x => if 9 ≤ i then (0, [], 3) else
      let x' := x + c.toNat % 128 * 128 ^ i
      if 128 ≤ c.toNat then rdGo r (i + 1) x' else
      if (c.toNat = 0 ∧ 0 < i) ∨ may (unzig x') = false then (0, [], 5) else (unzig x', r, 0)
def rdN (s : Str) : Int × Str × Int := rdGo s 0 0
abbrev tup3 (p : Int × Str × Int) : AV := .tup [.one (.p (.v (vI p.1))), .one (.p (.v (vS p.2.1))), .one (.p (.v (vI p.2.2)))]
theorem or_add {x d i : Nat} (hx : x < 128 ^ i) (hd : d < 128) (hi : i ≤ 8) :
    IntKind.wrap .i64 ((BitVec.ofInt (IntKind.bits .i64) (x : Int) ||| BitVec.ofInt (IntKind.bits .i64) ((d * 128 ^ i : Nat) : Int)).toNat : Int) = ((x + d * 128 ^ i : Nat) : Int) := by
  have e1 : (128 : Nat) ^ i = 2 ^ (7 * i) := by rw [Nat.pow_mul]
  have hb : (128 : Nat) ^ i ≤ 128 ^ 8 := Nat.pow_le_pow_right (by omega) hi
  have hm : d * 128 ^ i ≤ 127 * 128 ^ 8 := Nat.mul_le_mul (by omega) hb
  have h8 : (128 : Nat) ^ 8 = 72057594037927936 := by decide
  have e2 : (BitVec.ofInt (IntKind.bits .i64) (x : Int) ||| BitVec.ofInt (IntKind.bits .i64) ((d * 128 ^ i : Nat) : Int)).toNat = x + d * 128 ^ i := by
    rw [BitVec.toNat_or]
    have a1 : (BitVec.ofInt (IntKind.bits .i64) (x : Int)).toNat = x := by
      rw [BitVec.ofInt_natCast, BitVec.toNat_ofNat]; exact Nat.mod_eq_of_lt (by simp [IntKind.bits]; omega)
    have a2 : (BitVec.ofInt (IntKind.bits .i64) ((d * 128 ^ i : Nat) : Int)).toNat = d * 128 ^ i := by
      rw [BitVec.ofInt_natCast, BitVec.toNat_ofNat]; exact Nat.mod_eq_of_lt (by simp only [IntKind.bits]; omega)
    rw [a1, a2, e1, Nat.or_comm, Nat.mul_comm d, ← Nat.two_pow_add_eq_or_of_lt (by rw [← e1]; exact hx)]
    omega
  rw [e2]
  exact wrap64 (by omega) (by omega)
theorem shl7 {d i : Nat} (hd : d < 128) (hi : i ≤ 8) : IntKind.wrap .i64 ((d : Int) * 2 ^ (min ((7 * i : Nat) : Int).toNat (IntKind.bits .i64))) = ((d * 128 ^ i : Nat) : Int) := by
  have e1 : (128 : Nat) ^ i = 2 ^ (7 * i) := by rw [Nat.pow_mul]
  have e0 : min ((7 * i : Nat) : Int).toNat (IntKind.bits .i64) = 7 * i := by simp [IntKind.bits]; omega
  have hb : (128 : Nat) ^ i ≤ 128 ^ 8 := Nat.pow_le_pow_right (by omega) hi
  have hm : d * 128 ^ i ≤ 127 * 128 ^ 8 := Nat.mul_le_mul (by omega) hb
  have h8 : (128 : Nat) ^ 8 = 72057594037927936 := by decide
  rw [e0]
  have e2 : (d : Int) * 2 ^ (7 * i) = ((d * 128 ^ i : Nat) : Int) := by rw [e1]; push_cast; rfl
  rw [e2]
  exact wrap64 (by omega) (by omega)
theorem rdGo_stop (s : Str) (x : Nat) {i : Nat} (h : 9 ≤ i) : rdGo s i x = (0, [], 3) := by
  cases s <;> simp [rdGo, h]
theorem pow_succ128 (i : Nat) : 128 ^ (i + 1) = 128 ^ i * 128 := Nat.pow_succ ..
theorem rd_bound {x d i : Nat} (hx : x < 128 ^ i) (hd : d < 128) : x + d * 128 ^ i < 128 ^ (i + 1) := by
  have : (d + 1) * 128 ^ i ≤ 128 * 128 ^ i := Nat.mul_le_mul_right _ hd
  rw [pow_succ128, Nat.mul_comm (128 ^ i)]
  rw [Nat.add_mul, Nat.one_mul] at this
  omega
theorem div2 (x : Nat) : (x : Int).tdiv 2 = ((x / 2 : Nat) : Int) := by rw [Int.tdiv_eq_ediv_of_nonneg (by omega)]; rfl
theorem mod2 (x : Nat) : (x : Int).tmod 2 = ((x % 2 : Nat) : Int) := by rw [Int.tmod_eq_emod_of_nonneg (by omega)]; rfl
set_option maxRecDepth 100000 in
set_option maxHeartbeats 1000000 in
theorem ReadNumber114 (s : Str) (hs : s.length ≤ 9223372036854775807) : PCX I 114 [AV.str s] [] (.ret (tup3 (rdN s))) [] := by
  refine pcall_intro func114 rfl rfl ?_
  conv => whnf
  refine wpN_e (n := ((min s.length 9 : Nat) : Int)) (by split <;> omega) ?_
  conv => whnf
  refine loop_rule (fun p : Nat × Nat => mkS [(0, .str s), (5, .int (p.2 : Int)), (11, .int ((min s.length 9 : Nat) : Int)), (12, .int (p.1 : Int))] [] 0 56 0)
    (fun p => p.1 ≤ min s.length 9 ∧ p.2 < 128 ^ p.1 ∧ rdGo (s.drop p.1) p.1 p.2 = rdN s) (fun p => 9 - p.1) (0, 0) ?_ ?_ ?_
  · exact le_mkS ⟨.inl ⟨rfl, rfl⟩, .inl ⟨rfl, rfl⟩, .inl ⟨rfl, rfl⟩, .inl ⟨rfl, rfl⟩, trivial⟩ trivial rfl rfl
  · exact ⟨Nat.zero_le _, by decide, rfl⟩
  · rintro ⟨i, x⟩ ⟨hi, hx, hd⟩ next hnext
    simp only at hi hx hd ⊢
    conv => whnf
    refine wpB_c (fun h => ?_) (fun h => ?_)
    · have hlt : i < min s.length 9 := by simp only [decide_eq_true_eq] at h; omega
      have hl : i < s.length := by omega
      obtain ⟨c, hc⟩ := get_lt hl
      have hg : s.getD i 0 = c := by rw [List.getD_eq_getElem?_getD, hc]; rfl
      have hcl : c.toNat < 256 := UInt8.toNat_lt c
      have h8 : (128 : Nat) ^ 8 = 72057594037927936 := by decide
      have h9 : (128 : Nat) ^ 9 = 9223372036854775808 := by decide
      have hb : (128 : Nat) ^ i ≤ 128 ^ 8 := Nat.pow_le_pow_right (by omega) (by omega)
      have hx' := rd_bound hx (Nat.mod_lt c.toNat (by omega : 0 < 128))
      have hb' : (128 : Nat) ^ (i + 1) ≤ 128 ^ 9 := Nat.pow_le_pow_right (by omega) (by omega)
      rw [drop_get hc, rdGo, if_neg (by omega)] at hd
      simp only at hd
      generalize hx2 : x + c.toNat % 128 * 128 ^ i = x2 at hd hx'
      conv => whnf
      refine wpSide_i ⟨by omega, by omega⟩ ?_
      refine wpN_e (n := (c.toNat : Int)) (by rw [Int.toNat_natCast, hg]; exact wrap64 (by omega) (by omega)) ?_
      conv => whnf
      refine wpSide_i (by decide) ?_
      refine wpN_e (mod128 c.toNat) ?_
      conv => whnf
      refine wpN_e (n := ((7 * i : Nat) : Int)) (by rw [wrap64 (by omega) (by omega)]; omega) ?_
      conv => whnf
      refine wpSide_i (by omega) ?_
      refine wpN_e (shl7 (Nat.mod_lt _ (by omega)) (by omega)) ?_
      conv => whnf
      refine wpN_e (n := ((x2 : Nat) : Int)) (by rw [← hx2]; exact or_add hx (Nat.mod_lt _ (by omega)) (by omega)) ?_
      conv => whnf
      refine wpB_c (fun h2 => ?_) (fun h2 => ?_)
      · have h2 : 128 ≤ c.toNat := by simp only [decide_eq_true_eq] at h2; omega
        rw [if_pos h2] at hd
        conv => whnf
        refine wpN_succ hlt (by omega) ?_
        refine hnext (i + 1, x2) _ ⟨hlt, hx', hd⟩ (by simp only; omega) ?_
        exact le_mkS ⟨.inl ⟨rfl, rfl⟩, .inl ⟨rfl, rfl⟩, .inl ⟨rfl, rfl⟩, .inl ⟨rfl, rfl⟩, trivial⟩ trivial rfl rfl
      · have h2 : ¬ 128 ≤ c.toNat := by simp only [decide_eq_false_iff_not] at h2; omega
        rw [if_neg h2] at hd
        conv => whnf
        refine wpSide_i (by decide) ?_
        refine wpN_e (n := ((x2 / 2 : Nat) : Int)) (by rw [div2, wrap64 (by omega) (by omega)]) ?_
        conv => whnf
        refine wpSide_i (by decide) ?_
        refine wpN_e (mod2 x2) ?_
        conv => whnf
        refine wpB_c (fun h3 => ?odd) (fun h3 => ?even)
        case' odd =>
          have h3 : x2 % 2 = 1 := by simp only [decide_eq_true_eq] at h3; omega
          conv => whnf
          refine wpN_e (n := unzig x2) (by
            rw [wrap64 (n := 0 - _) (by omega) (by omega)]
            rw [wrap64 (by omega) (by omega)]
            rw [unzig, if_pos h3]; omega) ?_
        case' even =>
          have h3 : ¬ x2 % 2 = 1 := by simp only [decide_eq_false_iff_not] at h3; omega
          have e3 : ((x2 / 2 : Nat) : Int) = unzig x2 := by rw [unzig, if_neg h3]
          rw [e3]
        all_goals
          conv => whnf
          refine wpB_c (fun h4 => ?_) (fun h4 => ?_)
          · have h4 : c.toNat = 0 := by simp only [decide_eq_true_eq] at h4; omega
            conv => whnf
            refine wpB_c (fun h5 => ?_) (fun h5 => ?_)
            · have h5 : 0 < i := by simp only [decide_eq_true_eq] at h5; omega
              rw [if_pos (.inl ⟨h4, h5⟩)] at hd
              conv => whnf
              exact retI (congrArg tup3 hd)
            have hz : ¬ (c.toNat = 0 ∧ 0 < i) := by simp only [decide_eq_false_iff_not] at h5; omega
            conv => whnf
            refine wpCall_b (may224 _) (fun h6 => ?_) (fun h6 => ?_)
            · rw [if_neg (by
                rintro (q | q)
                · exact hz q
                · rw [q] at h6; cases h6)] at hd
              conv => whnf
              refine wpRegD_i rfl ?_
              conv => whnf
              refine wpN_succ (n := 9) (by omega) (by omega) ?_
              conv => whnf
              refine wpSide_i ⟨by omega, by omega, by omega⟩ ?_
              conv => whnf
              refine ⟨rfl, ?_⟩
              conv => whnf
              refine retI (Eq.trans ?_ (congrArg tup3 hd) : _ = tup3 (rdN s))
              simp [tupOf]
            · rw [if_pos (.inr h6)] at hd
              conv => whnf
              exact retI (congrArg tup3 hd)
          · have hz : ¬ (c.toNat = 0 ∧ 0 < i) := by simp only [decide_eq_false_iff_not] at h4; omega
            conv => whnf
            refine wpCall_b (may224 _) (fun h6 => ?_) (fun h6 => ?_)
            · rw [if_neg (by
                rintro (q | q)
                · exact hz q
                · rw [q] at h6; cases h6)] at hd
              conv => whnf
              refine wpRegD_i rfl ?_
              conv => whnf
              refine wpN_succ (n := 9) (by omega) (by omega) ?_
              conv => whnf
              refine wpSide_i ⟨by omega, by omega, by omega⟩ ?_
              conv => whnf
              refine ⟨rfl, ?_⟩
              conv => whnf
              refine retI (Eq.trans ?_ (congrArg tup3 hd) : _ = tup3 (rdN s))
              simp [tupOf]
            · rw [if_pos (.inr h6)] at hd
              conv => whnf
              exact retI (congrArg tup3 hd)
    · have : i = min s.length 9 := by simp only [decide_eq_false_iff_not] at h; omega
      conv => whnf
      refine wpB_c (fun h2 => ?_) (fun h2 => ?_)
      · have h2 : 9 ≤ s.length := by simp only [decide_eq_true_eq] at h2; omega
        conv => whnf
        rw [rdGo_stop _ _ (by omega)] at hd
        exact retI (congrArg tup3 hd)
      · have h2 : s.length < 9 := by simp only [decide_eq_false_iff_not] at h2; omega
        conv => whnf
        rw [List.drop_eq_nil_of_le (by omega), rdGo, if_neg (by omega)] at hd
        exact retI (congrArg tup3 hd)
end Go.Fw
namespace Go.Fw
open Go Go.Proofs.Tryz
variable {I : CallRel}
/-! pack: counts, rows -/
def cnt (s : Str) (most : Int) : Int × Str × Int :=
  let p := rdN s
  if p.2.2 ≠ 0 then (0, [], p.2.2) else if p.1 > most then (0, [], 3) else if p.1 < 0 then (0, [], 5) else (p.1, p.2.1, 0)
set_option maxRecDepth 100000 in
theorem count229 (s : Str) (most : Int) (hs : s.length ≤ 9223372036854775807) : PCX I 229 [AV.str s, AV.int most] [] (.ret (tup3 (cnt s most))) [] := by
  refine pcall_intro func229 rfl rfl ?_
  conv => whnf
  refine wpCall_r (ReadNumber114 s hs) ?_
  have hd : cnt s most = cnt s most := rfl
  conv at hd => lhs; unfold cnt
  simp only at hd
  generalize rdN s = p at hd
  obtain ⟨n, r, e⟩ := p
  simp only at hd
  conv => whnf
  refine wpB_c (fun h => ?_) (fun h => ?_)
  · have h : e ≠ 0 := by simpa using h
    rw [if_pos h] at hd
    conv => whnf
    exact retI (congrArg tup3 hd)
  have h : e = 0 := by simpa using h
  rw [if_neg (by simpa using h)] at hd
  conv => whnf
  refine wpB_c (fun h2 => ?_) (fun h2 => ?_)
  · have h2 : n > most := by simpa using h2
    rw [if_pos h2] at hd
    conv => whnf
    exact retI (congrArg tup3 hd)
  have h2 : ¬ n > most := by simpa using h2
  rw [if_neg h2] at hd
  conv => whnf
  refine wpB_c (fun h3 => ?_) (fun h3 => ?_)
  · have h3 : n < 0 := by simpa using h3
    rw [if_pos h3] at hd
    conv => whnf
    exact retI (congrArg tup3 hd)
  have h3 : ¬ n < 0 := by simpa using h3
  rw [if_neg h3] at hd
  conv => whnf
  exact retI (congrArg tup3 hd)

theorem rdGo_len : ∀ (s : Str) (i x : Nat), (rdGo s i x).2.1.length ≤ s.length
  | [], i, x => by unfold rdGo; split <;> simp
  | c :: r, i, x => by
    unfold rdGo
    split
    · simp
    · simp only
      split
      · have := rdGo_len r (i + 1) (x + c.toNat % 128 * 128 ^ i); simp; omega
      · split <;> simp
theorem cnt_len (s : Str) (m : Int) : (cnt s m).2.1.length ≤ s.length := by
  have := rdGo_len s 0 0
  unfold cnt rdN
  simp only
  split
  · simp
  split
  · simp
  split
  · simp
  · exact this
theorem cnt_num {s : Str} {m : Int} (h : (cnt s m).2.2 = 0) : 0 ≤ (cnt s m).1 ∧ (cnt s m).1 ≤ max m 0 := by
  unfold cnt at h ⊢
  simp only at h ⊢
  split
  · simp; omega
  split
  · simp; omega
  split
  · simp; omega
  · simp only; omega
/-- Parts of a row, so many. -/
def rdParts : Nat → Str → List Str × Str × Int
  | 0, s => ([], s, 0)
  | k + 1, s =>
    let p := cnt s 4096
    if p.2.2 ≠ 0 then ([], [], p.2.2) else if p.1 > p.2.1.length then ([], [], 4) else
      let q := rdParts k (p.2.1.drop p.1.toNat)
      if q.2.2 ≠ 0 then ([], [], q.2.2) else (p.2.1.take p.1.toNat :: q.1, q.2.1, 0)
def rdRow (s : Str) : List Str × Int :=
  let p := cnt s 256
  if p.2.2 ≠ 0 then ([], p.2.2) else
    let q := rdParts p.1.toNat p.2.1
    if q.2.2 ≠ 0 then ([], q.2.2) else if q.2.1 ≠ [] then ([], 5) else (q.1, 0)
abbrev strs (l : List Str) : List (List Value) := l.map fun s => [vS s]
/-- What is left to read, and what was read. -/
def rdFin (done : List Str) (k : Nat) (s : Str) : List Str × Int :=
  let q := rdParts k s
  if q.2.2 ≠ 0 then ([], q.2.2) else if q.2.1 ≠ [] then ([], 5) else (done ++ q.1, 0)
theorem rdFin_succ (done : List Str) (k : Nat) (s : Str) : rdFin done (k + 1) s =
    if (cnt s 4096).2.2 ≠ 0 then ([], (cnt s 4096).2.2) else if (cnt s 4096).1 > (cnt s 4096).2.1.length then ([], 4) else
      rdFin (done ++ [(cnt s 4096).2.1.take (cnt s 4096).1.toNat]) k ((cnt s 4096).2.1.drop (cnt s 4096).1.toNat) := by
  unfold rdFin
  rw [rdParts]
  generalize cnt s 4096 = p
  obtain ⟨n, r, e⟩ := p
  simp only
  generalize rdParts k (r.drop n.toNat) = q
  obtain ⟨l, t, e'⟩ := q
  simp only
  by_cases h1 : e = 0
  · by_cases h2 : n > r.length
    · simp [h1, h2]
    · by_cases h3 : e' = 0
      · simp [h1, h2, h3]
      · simp [h1, h2, h3]
  · simp [h1]
theorem rdRow_eq (s : Str) : rdRow s = if (cnt s 256).2.2 ≠ 0 then ([], (cnt s 256).2.2) else rdFin [] (cnt s 256).1.toNat (cnt s 256).2.1 := by
  unfold rdRow rdFin; simp
abbrev rowA (p : List Str × Int) : AV := .tup [.one (.p (.sl (strs p.1))), .one (.p (.v (vI p.2)))]
theorem strs_snoc (l : List Str) (x : Str) : strs l ++ [[vS x]] = strs (l ++ [x]) := by simp
set_option maxRecDepth 100000 in
set_option maxHeartbeats 1000000 in
theorem ReadRow113 (s : Str) (hs : s.length ≤ 1048576) : PCX I 113 [AV.str s] [] (.ret (rowA (rdRow s))) [] := by
  refine pcall_intro func113 rfl rfl ?_
  conv => whnf
  refine wpCall_r (count229 s 256 (by omega)) ?_
  have hr := rdRow_eq s
  have hl := cnt_len s 256
  have hn := @cnt_num s 256
  generalize cnt s 256 = p at hr hl hn
  obtain ⟨m, r, e⟩ := p
  simp only at hr hl hn
  conv => whnf
  refine wpB_c (fun h => ?_) (fun h => ?_)
  · have h : e ≠ 0 := by simpa using h
    rw [if_pos h] at hr
    conv => whnf
    exact retI (congrArg rowA hr.symm)
  have h : e = 0 := by simpa using h
  rw [if_neg (by simpa using h)] at hr
  have hm := hn h
  conv => whnf
  refine loop_rule (fun p : Nat × List Str × Str => mkS [(0, .str p.2.2), (4, .int m), (6, .one (.ref 0 (strs p.2.1).length)), (19, .int m), (20, .int (p.1 : Int))] [(0, .vec 9 (strs p.2.1) false)] 1 50 0)
    (fun p => p.1 ≤ m.toNat ∧ p.2.1.length = p.1 ∧ p.2.2.length ≤ s.length ∧ rdFin p.2.1 (m.toNat - p.1) p.2.2 = rdRow s) (fun p => m.toNat - p.1) (0, [], r) ?_ ?_ ?_
  · exact le_mkS ⟨.inl ⟨rfl, rfl⟩, .inl ⟨rfl, rfl⟩, .inr ⟨0, rfl, newT rfl rfl rfl (Nat.zero_lt_succ _)⟩, .inl ⟨rfl, rfl⟩, .inl ⟨rfl, rfl⟩, trivial⟩ ⟨.inr ⟨rfl, _, rfl, Nat.zero_lt_succ _⟩, trivial⟩ rfl rfl
  · exact ⟨Nat.zero_le _, rfl, hl, hr.symm⟩
  · rintro ⟨i, d, t⟩ ⟨hi, hdl, htl, hd⟩ next hnext
    simp only at hi hdl htl hd ⊢
    conv => whnf
    refine wpB_c (fun h2 => ?_) (fun h2 => ?_)
    · have h2 : i < m.toNat := by simp only [decide_eq_true_eq] at h2; omega
      have e1 : m.toNat - i = (m.toNat - (i + 1)) + 1 := by omega
      rw [e1, rdFin_succ] at hd
      conv => whnf
      refine wpCall_r (count229 t 4096 (by omega)) ?_
      have hl2 := cnt_len t 4096
      have hn2 := @cnt_num t 4096
      generalize cnt t 4096 = p2 at hd hl2 hn2
      obtain ⟨n2, r2, e2⟩ := p2
      simp only at hd hl2 hn2
      conv => whnf
      refine wpB_c (fun h3 => ?_) (fun h3 => ?_)
      · have h3 : e2 ≠ 0 := by simpa using h3
        rw [if_pos h3] at hd
        conv => whnf
        exact retI (congrArg rowA hd)
      have h3 : e2 = 0 := by simpa using h3
      rw [if_neg (by simpa using h3)] at hd
      have hm2 := hn2 h3
      conv => whnf
      refine wpB_c (fun h4 => ?_) (fun h4 => ?_)
      · have h4 : n2 > r2.length := by simpa using h4
        rw [if_pos h4] at hd
        conv => whnf
        exact retI (congrArg rowA hd)
      have h4 : ¬ n2 > r2.length := by simpa using h4
      rw [if_neg h4] at hd
      conv => whnf
      refine wpRegD_i rfl ?_
      conv => whnf
      refine wpSide_i ⟨by first | omega | (simp only []; omega), by first | omega | (simp only []; omega), by first | omega | (simp only []; omega)⟩ ?_
      conv => whnf
      refine wpSide_i ⟨rfl, rfl, ⟨(?_ : (_ + 1) * 16 ≤ _), (?_ : _ + 1 ≤ _)⟩⟩ ?_
      · simp only [List.length_map]; omega
      · simp only [List.length_map]; omega
      conv => whnf
      refine wpSide_i ⟨by first | omega | (simp only []; omega), by first | omega | (simp only []; omega), by first | omega | (simp only []; omega)⟩ ?_
      conv => whnf
      refine ⟨rfl, ?_⟩
      conv => whnf
      refine wpN_succ h2 (by omega) ?_
      refine hnext (i + 1, d ++ [r2.take n2.toNat], r2.drop n2.toNat) _ ⟨h2, by simp [hdl], by simp; omega, hd⟩ (by simp only; omega) ?_
      simp only [← strs_snoc]
      refine le_mkS ?_ ?_ rfl rfl
      · exact ⟨.inl ⟨by simp; rfl, rfl⟩, .inl ⟨rfl, rfl⟩, .inl ⟨by simp; rfl, rfl⟩, .inl ⟨rfl, rfl⟩, .inl ⟨rfl, rfl⟩, trivial⟩
      · exact ⟨.inl ⟨by simp; rfl, rfl⟩, trivial⟩
    · have h2 : i = m.toNat := by simp only [decide_eq_false_iff_not] at h2; omega
      subst h2
      rw [Nat.sub_self] at hd
      rw [show rdFin d 0 t = if t ≠ [] then ([], 5) else (d, 0) by unfold rdFin rdParts; simp] at hd
      conv => whnf
      refine wpB_c (fun h3 => ?_) (fun h3 => ?_)
      · have h3 : t ≠ [] := by simpa using h3
        rw [if_pos h3] at hd
        conv => whnf
        exact retI (congrArg rowA hd)
      have h3 : ¬ t ≠ [] := by simpa using h3
      rw [if_neg h3] at hd
      conv => whnf
      exact retI ⟨rfl, congrArg rowA hd⟩
end Go.Fw
namespace Go.Fw
open Go Go.Proofs.Tryz
variable {I : CallRel}
/-! pack.Row -/
set_option maxRecDepth 100000 in
theorem number225 (n : Int) : PCX I 225 [AV.int n] [] (.ret (AV.str (numS n))) [] := by
  refine pcall_intro func225 rfl rfl ?_
  conv => whnf
  refine wpCall_r (Number110 n) ?_
  conv => whnf
  exact retI rfl
def item (s : Str) : Str := numS s.length ++ s
def items (l : List Str) : Str := (l.map item).flatten
def rowMay (l : List Str) : Bool := l.all (fun s => decide (s.length ≤ 4096)) && decide (l.length ≤ 256)
def rowS (l : List Str) : Str := if rowMay l then numS l.length ++ items l else []
def rowE (l : List Str) : Int := if rowMay l then 0 else 3
theorem numS_len (n : Int) : (numS n).length ≤ 9 := by
  unfold numS
  split
  · rename_i h; exact numB_zig h
  · simp
theorem items_len : ∀ {l : List Str}, (∀ s ∈ l, s.length ≤ 4096) → (items l).length ≤ l.length * 4105
  | [], _ => by simp [items]
  | s :: l, h => by
    have h1 := items_len (l := l) fun x hx => h x (by simp [hx])
    have h2 := h s (by simp)
    have h3 := numS_len s.length
    simp only [items, List.map_cons, List.flatten_cons, item, List.length_append, List.length_cons] at h1 ⊢
    omega
abbrev vals (l : List Str) : List Value := l.map fun s => vS (item s)
set_option maxRecDepth 100000 in
set_option maxHeartbeats 1000000 in
theorem Row111 (l : List Str) (hl : l.length ≤ 1048576) (hs : ∀ s ∈ l, s.length ≤ 1048576) :
    PCX I 111 [.one (.p (.sl (strs l)))] [] (.ret (.tup [.one (.p (.v (vS (rowS l)))), .one (.p (.v (vI (rowE l))))])) [] := by
  refine pcall_intro func111 rfl rfl ?_
  conv => whnf
  refine wpSide_i ⟨rfl, by decide, by decide, by decide⟩ ?_
  conv => whnf
  refine wpLen_i ?_
  conv => whnf
  refine loop_rule (fun i : Nat => mkS [(0, .one (.p (.sl (strs l)))), (4, .one (.ch 0)), (11, .one (.p (.sl (strs l)))), (12, .int (strs l).length), (13, .int i)] [(0, .chan 256 (vals (l.take i)) false)] 1 45 0)
    (fun i => i ≤ l.length ∧ i ≤ 256 ∧ ∀ s ∈ l.take i, s.length ≤ 4096) (fun i => l.length - i) 0 ?_ ?_ ?_
  · exact le_mkS ⟨.inl ⟨rfl, rfl⟩, .inl ⟨rfl, rfl⟩, .inl ⟨rfl, rfl⟩, .inl ⟨rfl, rfl⟩, .inl ⟨rfl, rfl⟩, trivial⟩ ⟨.inl ⟨rfl, rfl⟩, trivial⟩ rfl rfl
  · simp
  · intro i ⟨hi, h256, ht⟩ next hnext
    conv => whnf
    refine wpB_c (fun h => ?_) (fun h => ?_)
    · have hlt : i < l.length := by simp at h; omega
      obtain ⟨x, hx⟩ := get_lt hlt
      have hxm : x ∈ l := List.mem_of_getElem? hx
      have hxl := hs x hxm
      conv => whnf
      refine wpSide_i trivial (wpIdx_i (n := i) rfl (get_map (fun s => [vS s]) hx) rfl ?_)
      conv => whnf
      refine wpB_c (fun h2 => ?_) (fun h2 => ?_)
      · have h2 : ¬ x.length ≤ 4096 := by simp at h2; omega
        have hr : rowMay l = false := by
          unfold rowMay
          rw [Bool.and_eq_false_iff]
          exact .inl (List.all_eq_false.2 ⟨x, hxm, by simpa using h2⟩)
        conv => whnf
        exact retI (by rw [rowS, rowE, hr]; rfl)
      have h2 : x.length ≤ 4096 := by simp at h2; omega
      conv => whnf
      refine wpCall_r (number225 _) ?_
      conv => whnf
      have hn9 := numS_len x.length
      refine wpSide_i (by omega) ?_
      conv => whnf
      have hlen : (vals (l.take i)).length = i := by simp; omega
      refine wpB_c (fun h3 => ?_) (fun h3 => ?_)
      · have h3 : i < 256 := by rw [decide_eq_true_eq, hlen] at h3; exact h3
        refine wpSide_i rfl ?_
        conv => whnf
        refine wpB_t rfl ?_
        conv => whnf
        refine wpN_succ hlt (by omega) ?_
        refine hnext (i + 1) _ ⟨hlt, h3, ?_⟩ (by omega) ?_
        · rw [take_get hx]
          intro s hs'
          rcases List.mem_append.1 hs' with q | q
          · exact ht s q
          · simp at q; subst q; exact h2
        · have e1 : vals (l.take (i + 1)) = vals (l.take i) ++ [vS (item x)] := by rw [take_get hx]; simp
          simp only [e1]
          exact le_mkS ⟨.inl ⟨rfl, rfl⟩, .inl ⟨rfl, rfl⟩, .inl ⟨rfl, rfl⟩, .inl ⟨rfl, rfl⟩, .inl ⟨rfl, rfl⟩, trivial⟩ ⟨.inl ⟨rfl, rfl⟩, trivial⟩ rfl rfl
      · have h3 : ¬ i < 256 := by rw [decide_eq_false_iff_not, hlen] at h3; exact h3
        have hr : rowMay l = false := by
          unfold rowMay
          rw [Bool.and_eq_false_iff]
          exact .inr (by simp; omega)
        conv => whnf
        refine wpB_f rfl ?_
        conv => whnf
        exact retI (by rw [rowS, rowE, hr]; rfl)
    · have hii : i = l.length := by simp at h; omega
      subst hii
      rw [List.take_length] at ht
      simp only [List.take_length]
      have hr : rowMay l = true := by
        unfold rowMay
        rw [Bool.and_eq_true]
        exact ⟨List.all_eq_true.2 fun s hs' => by simpa using ht s hs', by simpa using h256⟩
      have hil := items_len ht
      have hn9 := numS_len l.length
      conv => whnf
      refine wpLen_i ?_
      conv => whnf
      refine wpCall_r (number225 _) ?_
      conv => whnf
      refine wpInl_i func226 rfl rfl ?_
      conv => whnf
      refine wpInl_j ⟨rfl, 1, _, rfl, .inl ⟨rfl, ?_⟩⟩
      conv => whnf
      have hstr : (strs l).length = l.length := by simp
      rw [hstr]
      refine wpSide_i ⟨trivial, (?_ : _ * 1 ≤ _), (?_ : _ ≤ _)⟩ ?_
      · simp only [List.length_map]; omega
      · simp only [List.length_map]; omega
      conv => whnf
      refine loop_rule (fun p : Str × List Str => mkS [(4, .one (.ch 0)), (7, .one (.ptr 1 0))] [(0, .chan 256 (vals p.2) true), (1, .vars [.ptr 1 0, .ref 2 (byteRow p.1).length]), (2, .vec 5 (byteRow p.1) false)] 3 45 0)
        (fun p => p.1 ++ items p.2 = numS l.length ++ items l ∧ p.1 ≠ []) (fun p => p.2.length) (numS l.length, l) ?_ ?_ ?_
      · refine le_mkS ⟨.inl ⟨rfl, rfl⟩, .inl ⟨rfl, rfl⟩, trivial⟩ ⟨.inl ⟨rfl, rfl⟩, .inl ⟨by rw [byteRow_len, List.length_map]; rfl, rfl⟩, .inl ⟨rfl, rfl⟩, trivial⟩ rfl rfl
      · refine ⟨rfl, ?_⟩
        unfold numS
        rw [if_pos ((may_iff _).2 (by omega))]
        intro h; have := numB_zig (n := (l.length : Int)) ((may_iff _).2 (by omega)); unfold numB at h; split at h <;> simp at h
      · rintro ⟨acc, rem⟩ ⟨hacc, hne⟩ next2 hnext2
        simp only at hacc hne ⊢
        have hal : acc.length + (items rem).length ≤ 9 + 256 * 4105 := by
          rw [← List.length_append, hacc, List.length_append]; omega
        cases rem with
        | nil =>
          conv => whnf
          refine wpB_t rfl (wpSide_i rfl ?_)
          conv => whnf
          refine wpInl_i func227 rfl rfl ?_
          conv => whnf
          refine wpRegS_i 10 [] [10, 11] rfl rfl ?_
          conv => whnf
          have hbne : byteRow acc ≠ [] := by
            cases acc with
            | nil => exact absurd rfl hne
            | cons c acc => simp [byteRow]
          refine wpSide_i ⟨rfl, hbne⟩ ?_
          conv => whnf
          refine wpSide_i rfl (wpLen_i ?_)
          conv => whnf
          refine ⟨rfl, ?_⟩
          conv => whnf
          refine wpSide_i ⟨rfl, rfl, hbne⟩ ⟨⟨acc, rfl, ?_⟩⟩
          conv => whnf
          refine retI ?_
          rw [rowS, rowE, hr]
          have e1 : numS l.length ++ items l = acc := by rw [← hacc]; simp [items]
          simp only [if_true, e1]
          rfl
        | cons x rest =>
          conv => whnf
          refine wpB_f rfl ?_
          conv => whnf
          refine wpInl_i func226 rfl rfl ?_
          conv => whnf
          refine wpInl_j ⟨rfl, 1, _, rfl, .inr ⟨rfl, ?_⟩⟩
          conv => whnf
          refine wpSide_i ⟨trivial, rfl, (?_ : (_ + _) * 1 ≤ _), (?_ : _ + _ ≤ _)⟩ ?_
          · simp only [List.length_map, byteRow_len, items, List.map_cons, List.flatten_cons, List.length_append] at hal ⊢; omega
          · simp only [List.length_map, byteRow_len, items, List.map_cons, List.flatten_cons, List.length_append] at hal ⊢; omega
          conv => whnf
          refine hnext2 (acc ++ item x, rest) _ ⟨?_, by simp [hne]⟩ (by simp) ?_
          · rw [← hacc]; simp [items]
          · have e1 : byteRow acc ++ (item x).map (fun c => [Value.int .u8 c.toNat]) = byteRow (acc ++ item x) := by simp [byteRow]
            simp only [← e1]
            refine le_mkS ⟨.inl ⟨rfl, rfl⟩, .inl ⟨rfl, rfl⟩, trivial⟩ ⟨.inl ⟨rfl, rfl⟩, .inl ⟨by rw [List.length_append]; rfl, rfl⟩, .inl ⟨rfl, rfl⟩, trivial⟩ rfl rfl
end Go.Fw
