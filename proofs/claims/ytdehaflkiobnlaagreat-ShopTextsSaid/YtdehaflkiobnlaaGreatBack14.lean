/- A part of the proof of Rows.ShopBackSaid: what ShopBack answers, whatever the arguments; it stands under no condition. -/
import Derived.Test.YtdehaflkiobnlaaGreatBack12
import Derived.Test.YtdehaflkiobnlaaGreatBack13
import Derived.Test.YtdehaflkiobnlaaGreatBack07
import Derived.Test.YtdehaflkiobnlaaGreatBack09
set_option linter.unusedVariables false
set_option linter.unusedSimpArgs false
set_option linter.unusedSectionVars false
set_option linter.deprecated false
namespace Go.Fw
open Go Go.RowKit
theorem set_two {w : World} {b : Nat} {u v : Value} {t : TypeId} (h : w.heap[b]? = some (.cells #[u, v] t (0, 0))) (x : Value) : (w.setCell ⟨b, 0, none⟩ x).heap[b]? = some (.cells #[x, v] t (0, 0)) := by
  have hb := (Array.getElem?_eq_some_iff.1 h).1
  have he := (Array.getElem?_eq_some_iff.1 h).2
  simp [World.setCell, Array.getElem?_modify, h]
theorem soundJ : SoundJ Pr T jiB := by
  rintro f ar s K Pp ⟨rfl, r, c1, rfl, h⟩
  refine ⟨⟨_, _, Go.Proofs.Tryz.func378, rfl, rfl⟩, ?_⟩
  intro w E vs hA hB hF htop
  have hk : ∀ r, s.bs r ≠ .none → r < s.nx := fun q hq => by
    rcases Nat.lt_or_ge q s.nx with h | h
    · exact h
    · exact absurd (htop q h) hq
  obtain ⟨v, rfl, hv⟩ : ∃ v, vs = #[v] ∧ RA s.bs w E (.one (.ptr r 0)) v := by
    rcases vs with ⟨l⟩
    match l, hA with
    | [v], hA => exact ⟨v, rfl, hA.1⟩
  rcases h with ⟨hr, hK⟩ | ⟨hr, hK⟩
  · have hvp : v = .pointer (some ⟨E.σ r, 0, none⟩) := by
      have := hv.1
      simp only [RC, hr] at this
      exact this
    subst hvp
    have hb := hB.blk r
    rw [hr] at hb
    obtain ⟨ar, hh, hAr⟩ := hb
    rcases ar with ⟨l⟩
    match l, hAr with
    | [u, v1], hAr =>
    have hu : u = .pointer none := hAr.1.1
    subst hu
    refine (fresh378 (E.σ r) w (by rw [Lib.cell_of_heap hh]; rfl) (by simp [World.shape?, hh]) (Lib.frozen_of_heap hh 0)).mono ?_
    rintro e w' ⟨rfl, rfl⟩
    have hs := start_sim (G := cfg) (k := s.nx) (ar := [.one (.ptr r 0)]) (vs := #[.pointer (some ⟨E.σ r, 0, none⟩)]) 0 s.nx ⟨hv, trivial⟩ hB hF hk
    have hm : mblk s.bs E r = some (E.σ r) := by simp [mblk, hr]
    have h2 := one_step hs (r := r) (b' := .vars [.ptr r 0, c1]) (w' := w.setCell ⟨E.σ r, 0, none⟩ (.pointer (some ⟨E.σ r, 0, none⟩))) (E' := E) (fun _ _ => ⟨rfl, rfl⟩) rfl
      (by intro _; rw [upd_same]; exact ⟨⟨_, .inr ⟨321, hr⟩⟩, rfl⟩) rfl rfl rfl (by simp [World.setCell]) (fun k _ hne => Below.heap_setCell w _ _ k (fun he => hne (by rw [he]; exact hm.symm)))
      (fun hbe => ⟨#[.pointer (some ⟨E.σ r, 0, none⟩), v1], 321, set_two hh _, ⟨by simp [RC, upd_same], rfl⟩, RC1.ext ⟨fun _ h => h, fun b hb => Below.heap_setCell w _ _ b (fun he => (hB.mt r _ hm).1 (by have he' : b = E.σ r := he; rw [← he']; exact hb))⟩ hbe hAr.2.1, trivial⟩)
      (fun b hb => ?_) none s.nx (v := .junk) (val := undef) ⟨trivial, trivial⟩
    · refine .inl ⟨s.app none ⟨.junk, [(r, .vars [.ptr r 0, c1])], s.nx⟩, E, h2.fr, h2.hist, h2.bl, ?_, fun q b hq => ?_, .tup [], _, rfl, ⟨#[], rfl, trivial⟩, hK⟩
      · intro q hq
        have hq' : s.nx ≤ q := hq
        show updL s.bs [(r, .vars [.ptr r 0, c1])] q = .none
        have hrn := hk r (by rw [hr]; simp)
        show upd s.bs r _ q = .none
        rw [upd_ne _ _ (by omega)]
        exact htop q hq'
      · exact h2.own q b hq
    · have : b = E.σ r := by simp [mblk, upd_same] at hb; exact hb.symm
      subst this
      exact ⟨.inl hm.symm, by simp [World.setCell]; exact (hB.mt r _ hm).2⟩
  · have hvp : v = .pointer (some ⟨E.σ r, 0, none⟩) := by
      have := hv.1
      simp only [RC, hr] at this
      exact this
    subst hvp
    have hb := hB.blk r
    rw [hr] at hb
    obtain ⟨ar, ty, hh, hAr⟩ := hb
    rcases ar with ⟨l⟩
    match l, hAr with
    | [u, v1], hAr =>
    have hu : u = .pointer (some ⟨E.σ r, 0, none⟩) := by
      have := hAr.1.1
      simp only [RC, hr] at this
      exact this
    subst hu
    refine (used378 (E.σ r) w (by rw [Lib.cell_of_heap hh]; rfl)).mono ?_
    rintro e w' ⟨rfl, rfl⟩
    have hs := start_sim (G := cfg) (k := s.nx) (ar := [.one (.ptr r 0)]) (vs := #[.pointer (some ⟨E.σ r, 0, none⟩)]) 0 s.nx ⟨hv, trivial⟩ hB hF hk
    exact .inl ⟨s, E, hs.fr, BExt.refl _ _, hB, htop, fun q b hq => hs.own q b hq, .tup [], _, rfl, ⟨#[], rfl, trivial⟩, hK⟩
end Go.Fw
/- Small lemmas for walks. -/
namespace Go.Fw
open Go
theorem wrap64 {n : Int} (h1 : -9223372036854775808 ≤ n) (h2 : n ≤ 9223372036854775807) : IntKind.wrap .i64 n = n := by
  simp [IntKind.wrap, IntKind.bits, IntKind.signed]
  split <;> omega
theorem lens_of {xs : List (List Value)} {k : Nat} (h : (xs.all fun es => Nat.beq es.length k) = true) : ∀ es ∈ xs, es.length = k := fun es he => Nat.eq_of_beq_eq_true (List.all_eq_true.1 h es he)
theorem drop_get {α : Type} {l : List α} {i : Nat} {x : α} (h : l[i]? = some x) : l.drop i = x :: l.drop (i + 1) := by
  have hlt := (List.getElem?_eq_some_iff.1 h)
  rw [← hlt.2]; exact (List.getElem_cons_drop ..).symm
theorem take_get {α : Type} {l : List α} {i : Nat} {x : α} (h : l[i]? = some x) : l.take (i + 1) = l.take i ++ [x] := by
  rw [List.take_succ, h]; rfl
theorem get_map {α β : Type} (f : α → β) {l : List α} {i : Nat} {x : α} (h : l[i]? = some x) : (l.map f)[i]? = some (f x) := by simp [h]
theorem get_lt {α : Type} {l : List α} {i : Nat} (h : i < l.length) : ∃ x, l[i]? = some x := ⟨l[i], by simp [h]⟩
theorem wpN_succ {i n : Nat} {K : Int → Prop} (hi : i < n) (hn : n ≤ 140737488355328) (h : K ((i + 1 : Nat) : Int)) : wpN (IntKind.wrap .i64 ((i : Int) + 1)) K :=
  wpN_e (by rw [wrap64 (by omega) (by omega)]; omega) h
end Go.Fw
namespace Go.Fw
open Go Go.Proofs.Tryz
variable {I : CallRel}
set_option maxRecDepth 100000 in
theorem al94e : PCX I 94 [.w (.agg [.p (.sl []), .p (.sl [])])] [] (.ret (AV.bool true)) [] := by
  refine pcall_intro func94 rfl rfl ?_
  repeat' ((conv => whnf) <;> first
    | refine wpB_t rfl ?_
    | refine wpB_f rfl ?_
    | refine wpLen_i ?_
    | refine wpN_e (n := 0) rfl ?_
    | refine wpN_e (n := 1) rfl ?_
    | refine wpN_e (n := 2) rfl ?_
    | refine wpN_e (n := 3) rfl ?_
    | refine wpN_e (n := 4) rfl ?_
    | refine wpN_e (n := 5) rfl ?_
    | refine wpN_e (n := 6) rfl ?_
    | refine wpN_e (n := 7) rfl ?_
    | refine wpN_e (n := 8) rfl ?_
    | refine wpN_e (n := 9) rfl ?_
    | refine wpN_e (n := 10) rfl ?_
    | refine wpN_e (n := 11) rfl ?_
    | refine wpN_e (n := 12) rfl ?_
    | refine wpN_e (n := 13) rfl ?_
    | refine wpN_e (n := -1) rfl ?_
    | refine wpN_e (n := 100) rfl ?_
    | refine wpN_e (n := 1099511627776) rfl ?_
    | refine loop_unroll' ?_
    | refine wpRegD_i rfl ?_
    | refine wpSide_i ⟨rfl, trivial⟩ ?_
    | refine wpSide_i trivial ?_
    | refine wpSide_i (by decide) ?_
    | refine wpSide_i (by simp) ?_
    | refine wpSide_i (by constructor <;> decide) ?_
    | refine wpIdx_i (n := 0) rfl rfl rfl ?_
    | refine wpIdx_i (n := 1) rfl rfl rfl ?_
    | refine wpIdx_i (n := 2) rfl rfl rfl ?_
    | refine wpIdx_i (n := 3) rfl rfl rfl ?_
    | refine wpIdx_i (n := 4) rfl rfl rfl ?_
    | refine wpIdx_i (n := 5) rfl rfl rfl ?_
    | refine wpIdx_i (n := 6) rfl rfl rfl ?_
    | refine wpIdx_i (n := 7) rfl rfl rfl ?_
    | refine wpIdx_i (n := 8) rfl rfl rfl ?_
    | refine wpIdx_i (n := 9) rfl rfl rfl ?_
    | refine wpIdx_i (n := 10) rfl rfl rfl ?_
    | refine wpIdx_i (n := 11) rfl rfl rfl ?_
    | refine wpIdx_i (n := 12) rfl rfl rfl ?_
    | refine wpIdx_i (n := 13) rfl rfl rfl ?_
    | (apply wpCall_r; apply pcall_intro func100 rfl rfl)
    | (apply wpCall_r; apply pcall_intro func197 rfl rfl)
    | (apply wpCall_r; apply pcall_intro func198 rfl rfl)
    | (apply wpCall_r; apply pcall_intro func199 rfl rfl)
    | (apply wpCall_r; apply pcall_intro func200 rfl rfl)
    | (apply wpCall_r; apply pcall_intro func201 rfl rfl)
    | (apply wpCall_r; apply pcall_intro func202 rfl rfl)
    | (apply wpCall_r; apply pcall_intro func203 rfl rfl)
    | (apply wpCall_r; apply pcall_intro func204 rfl rfl)
    | (apply wpCall_r; apply pcall_intro func205 rfl rfl)
    | (apply wpCall_r; apply pcall_intro func206 rfl rfl)
    | (apply wpCall_r; apply pcall_intro func214 rfl rfl)
    | (apply wpCall_r; apply pcall_intro func314 rfl rfl)
    | (apply wpCall_r; apply pcall_intro func315 rfl rfl)
    | (apply wpCall_r; apply pcall_intro func365 rfl rfl)
    | (apply wpCall_r; apply pcall_intro func366 rfl rfl)
    | (apply wpCall_r; apply pcall_intro func367 rfl rfl)
    | (apply wpCall_r; apply pcall_intro func368 rfl rfl)
    | (apply wpCall_r; apply pcall_intro func369 rfl rfl)
    | (apply wpCall_r; apply pcall_intro func370 rfl rfl)
    | (apply wpCall_r; apply pcall_intro func447 rfl rfl)
    | (apply wpCall_r; apply pcall_intro func481 rfl rfl)
    | (apply wpCall_r; apply pcall_intro func482 rfl rfl)
    | refine ⟨rfl, ?_⟩
    | refine ⟨_, rfl, ?_⟩
    | exact rfl)
set_option maxRecDepth 100000 in
theorem al95e : PCX I 95 [.one (.p (.sl []))] [] (.ret (AV.bool true)) [] := by
  refine pcall_intro func95 rfl rfl ?_
  repeat' ((conv => whnf) <;> first
    | refine wpB_t rfl ?_
    | refine wpB_f rfl ?_
    | refine wpLen_i ?_
    | refine wpN_e (n := 0) rfl ?_
    | refine wpN_e (n := 1) rfl ?_
    | refine wpN_e (n := 2) rfl ?_
    | refine wpN_e (n := 3) rfl ?_
    | refine wpN_e (n := 4) rfl ?_
    | refine wpN_e (n := 5) rfl ?_
    | refine wpN_e (n := 6) rfl ?_
    | refine wpN_e (n := 7) rfl ?_
    | refine wpN_e (n := 8) rfl ?_
    | refine wpN_e (n := 9) rfl ?_
    | refine wpN_e (n := 10) rfl ?_
    | refine wpN_e (n := 11) rfl ?_
    | refine wpN_e (n := 12) rfl ?_
    | refine wpN_e (n := 13) rfl ?_
    | refine wpN_e (n := -1) rfl ?_
    | refine wpN_e (n := 100) rfl ?_
    | refine wpN_e (n := 1099511627776) rfl ?_
    | refine loop_unroll' ?_
    | refine wpRegD_i rfl ?_
    | refine wpSide_i ⟨rfl, trivial⟩ ?_
    | refine wpSide_i trivial ?_
    | refine wpSide_i (by decide) ?_
    | refine wpSide_i (by simp) ?_
    | refine wpSide_i (by constructor <;> decide) ?_
    | refine wpIdx_i (n := 0) rfl rfl rfl ?_
    | refine wpIdx_i (n := 1) rfl rfl rfl ?_
    | refine wpIdx_i (n := 2) rfl rfl rfl ?_
    | refine wpIdx_i (n := 3) rfl rfl rfl ?_
    | refine wpIdx_i (n := 4) rfl rfl rfl ?_
    | refine wpIdx_i (n := 5) rfl rfl rfl ?_
    | refine wpIdx_i (n := 6) rfl rfl rfl ?_
    | refine wpIdx_i (n := 7) rfl rfl rfl ?_
    | refine wpIdx_i (n := 8) rfl rfl rfl ?_
    | refine wpIdx_i (n := 9) rfl rfl rfl ?_
    | refine wpIdx_i (n := 10) rfl rfl rfl ?_
    | refine wpIdx_i (n := 11) rfl rfl rfl ?_
    | refine wpIdx_i (n := 12) rfl rfl rfl ?_
    | refine wpIdx_i (n := 13) rfl rfl rfl ?_
    | (apply wpCall_r; apply pcall_intro func94 rfl rfl)
    | (apply wpCall_r; apply pcall_intro func100 rfl rfl)
    | (apply wpCall_r; apply pcall_intro func197 rfl rfl)
    | (apply wpCall_r; apply pcall_intro func198 rfl rfl)
    | (apply wpCall_r; apply pcall_intro func199 rfl rfl)
    | (apply wpCall_r; apply pcall_intro func200 rfl rfl)
    | (apply wpCall_r; apply pcall_intro func201 rfl rfl)
    | (apply wpCall_r; apply pcall_intro func202 rfl rfl)
    | (apply wpCall_r; apply pcall_intro func203 rfl rfl)
    | (apply wpCall_r; apply pcall_intro func204 rfl rfl)
    | (apply wpCall_r; apply pcall_intro func205 rfl rfl)
    | (apply wpCall_r; apply pcall_intro func206 rfl rfl)
    | (apply wpCall_r; apply pcall_intro func207 rfl rfl)
    | (apply wpCall_r; apply pcall_intro func214 rfl rfl)
    | (apply wpCall_r; apply pcall_intro func314 rfl rfl)
    | (apply wpCall_r; apply pcall_intro func315 rfl rfl)
    | (apply wpCall_r; apply pcall_intro func365 rfl rfl)
    | (apply wpCall_r; apply pcall_intro func366 rfl rfl)
    | (apply wpCall_r; apply pcall_intro func367 rfl rfl)
    | (apply wpCall_r; apply pcall_intro func368 rfl rfl)
    | (apply wpCall_r; apply pcall_intro func369 rfl rfl)
    | (apply wpCall_r; apply pcall_intro func370 rfl rfl)
    | (apply wpCall_r; apply pcall_intro func371 rfl rfl)
    | (apply wpCall_r; apply pcall_intro func372 rfl rfl)
    | (apply wpCall_r; apply pcall_intro func373 rfl rfl)
    | (apply wpCall_r; apply pcall_intro func374 rfl rfl)
    | (apply wpCall_r; apply pcall_intro func447 rfl rfl)
    | (apply wpCall_r; apply pcall_intro func481 rfl rfl)
    | (apply wpCall_r; apply pcall_intro func482 rfl rfl)
    | (apply wpCall_r; apply pcall_intro func483 rfl rfl)
    | refine ⟨rfl, ?_⟩
    | refine ⟨_, rfl, ?_⟩
    | exact rfl)
set_option maxRecDepth 100000 in
theorem al96e : PCX I 96 [.one (.p (.sl []))] [] (.ret (AV.bool true)) [] := by
  refine pcall_intro func96 rfl rfl ?_
  repeat' ((conv => whnf) <;> first
    | refine wpB_t rfl ?_
    | refine wpB_f rfl ?_
    | refine wpLen_i ?_
    | refine wpN_e (n := 0) rfl ?_
    | refine wpN_e (n := 1) rfl ?_
    | refine wpN_e (n := 2) rfl ?_
    | refine wpN_e (n := 3) rfl ?_
    | refine wpN_e (n := 4) rfl ?_
    | refine wpN_e (n := 5) rfl ?_
    | refine wpN_e (n := 6) rfl ?_
    | refine wpN_e (n := 7) rfl ?_
    | refine wpN_e (n := 8) rfl ?_
    | refine wpN_e (n := 9) rfl ?_
    | refine wpN_e (n := 10) rfl ?_
    | refine wpN_e (n := 11) rfl ?_
    | refine wpN_e (n := 12) rfl ?_
    | refine wpN_e (n := 13) rfl ?_
    | refine wpN_e (n := -1) rfl ?_
    | refine wpN_e (n := 100) rfl ?_
    | refine wpN_e (n := 1099511627776) rfl ?_
    | refine loop_unroll' ?_
    | refine wpRegD_i rfl ?_
    | refine wpSide_i ⟨rfl, trivial⟩ ?_
    | refine wpSide_i trivial ?_
    | refine wpSide_i (by decide) ?_
    | refine wpSide_i (by simp) ?_
    | refine wpSide_i (by constructor <;> decide) ?_
    | refine wpIdx_i (n := 0) rfl rfl rfl ?_
    | refine wpIdx_i (n := 1) rfl rfl rfl ?_
    | refine wpIdx_i (n := 2) rfl rfl rfl ?_
    | refine wpIdx_i (n := 3) rfl rfl rfl ?_
    | refine wpIdx_i (n := 4) rfl rfl rfl ?_
    | refine wpIdx_i (n := 5) rfl rfl rfl ?_
    | refine wpIdx_i (n := 6) rfl rfl rfl ?_
    | refine wpIdx_i (n := 7) rfl rfl rfl ?_
    | refine wpIdx_i (n := 8) rfl rfl rfl ?_
    | refine wpIdx_i (n := 9) rfl rfl rfl ?_
    | refine wpIdx_i (n := 10) rfl rfl rfl ?_
    | refine wpIdx_i (n := 11) rfl rfl rfl ?_
    | refine wpIdx_i (n := 12) rfl rfl rfl ?_
    | refine wpIdx_i (n := 13) rfl rfl rfl ?_
    | (apply wpCall_r; apply pcall_intro func76 rfl rfl)
    | (apply wpCall_r; apply pcall_intro func94 rfl rfl)
    | (apply wpCall_r; apply pcall_intro func100 rfl rfl)
    | (apply wpCall_r; apply pcall_intro func130 rfl rfl)
    | (apply wpCall_r; apply pcall_intro func168 rfl rfl)
    | (apply wpCall_r; apply pcall_intro func197 rfl rfl)
    | (apply wpCall_r; apply pcall_intro func198 rfl rfl)
    | (apply wpCall_r; apply pcall_intro func199 rfl rfl)
    | (apply wpCall_r; apply pcall_intro func200 rfl rfl)
    | (apply wpCall_r; apply pcall_intro func201 rfl rfl)
    | (apply wpCall_r; apply pcall_intro func202 rfl rfl)
    | (apply wpCall_r; apply pcall_intro func203 rfl rfl)
    | (apply wpCall_r; apply pcall_intro func204 rfl rfl)
    | (apply wpCall_r; apply pcall_intro func205 rfl rfl)
    | (apply wpCall_r; apply pcall_intro func206 rfl rfl)
    | (apply wpCall_r; apply pcall_intro func208 rfl rfl)
    | (apply wpCall_r; apply pcall_intro func209 rfl rfl)
    | (apply wpCall_r; apply pcall_intro func214 rfl rfl)
    | (apply wpCall_r; apply pcall_intro func216 rfl rfl)
    | (apply wpCall_r; apply pcall_intro func247 rfl rfl)
    | (apply wpCall_r; apply pcall_intro func248 rfl rfl)
    | (apply wpCall_r; apply pcall_intro func249 rfl rfl)
    | (apply wpCall_r; apply pcall_intro func250 rfl rfl)
    | (apply wpCall_r; apply pcall_intro func251 rfl rfl)
    | (apply wpCall_r; apply pcall_intro func252 rfl rfl)
    | (apply wpCall_r; apply pcall_intro func314 rfl rfl)
    | (apply wpCall_r; apply pcall_intro func315 rfl rfl)
    | (apply wpCall_r; apply pcall_intro func363 rfl rfl)
    | (apply wpCall_r; apply pcall_intro func365 rfl rfl)
    | (apply wpCall_r; apply pcall_intro func366 rfl rfl)
    | (apply wpCall_r; apply pcall_intro func367 rfl rfl)
    | (apply wpCall_r; apply pcall_intro func368 rfl rfl)
    | (apply wpCall_r; apply pcall_intro func369 rfl rfl)
    | (apply wpCall_r; apply pcall_intro func370 rfl rfl)
    | (apply wpCall_r; apply pcall_intro func384 rfl rfl)
    | (apply wpCall_r; apply pcall_intro func385 rfl rfl)
    | (apply wpCall_r; apply pcall_intro func386 rfl rfl)
    | (apply wpCall_r; apply pcall_intro func387 rfl rfl)
    | (apply wpCall_r; apply pcall_intro func388 rfl rfl)
    | (apply wpCall_r; apply pcall_intro func389 rfl rfl)
    | (apply wpCall_r; apply pcall_intro func390 rfl rfl)
    | (apply wpCall_r; apply pcall_intro func391 rfl rfl)
    | (apply wpCall_r; apply pcall_intro func392 rfl rfl)
    | (apply wpCall_r; apply pcall_intro func447 rfl rfl)
    | (apply wpCall_r; apply pcall_intro func481 rfl rfl)
    | (apply wpCall_r; apply pcall_intro func482 rfl rfl)
    | (apply wpCall_r; apply pcall_intro func488 rfl rfl)
    | (apply wpCall_r; apply pcall_intro func489 rfl rfl)
    | (apply wpCall_r; apply pcall_intro func490 rfl rfl)
    | (apply wpCall_r; apply pcall_intro func564 rfl rfl)
    | (apply wpCall_r; apply pcall_intro func565 rfl rfl)
    | refine ⟨rfl, ?_⟩
    | refine ⟨_, rfl, ?_⟩
    | exact rfl)
set_option maxRecDepth 100000 in
theorem al97e : PCX I 97 [.w (.agg [.p (.v (vI 0)), .p (.sl [])])] [] (.ret (AV.bool true)) [] := by
  refine pcall_intro func97 rfl rfl ?_
  repeat' ((conv => whnf) <;> first
    | refine wpB_t rfl ?_
    | refine wpB_f rfl ?_
    | refine wpLen_i ?_
    | refine wpN_e (n := 0) rfl ?_
    | refine wpN_e (n := 1) rfl ?_
    | refine wpN_e (n := 2) rfl ?_
    | refine wpN_e (n := 3) rfl ?_
    | refine wpN_e (n := 4) rfl ?_
    | refine wpN_e (n := 5) rfl ?_
    | refine wpN_e (n := 6) rfl ?_
    | refine wpN_e (n := 7) rfl ?_
    | refine wpN_e (n := 8) rfl ?_
    | refine wpN_e (n := 9) rfl ?_
    | refine wpN_e (n := 10) rfl ?_
    | refine wpN_e (n := 11) rfl ?_
    | refine wpN_e (n := 12) rfl ?_
    | refine wpN_e (n := 13) rfl ?_
    | refine wpN_e (n := -1) rfl ?_
    | refine wpN_e (n := 100) rfl ?_
    | refine wpN_e (n := 1099511627776) rfl ?_
    | refine loop_unroll' ?_
    | refine wpRegD_i rfl ?_
    | refine wpSide_i ⟨rfl, trivial⟩ ?_
    | refine wpSide_i trivial ?_
    | refine wpSide_i (by decide) ?_
    | refine wpSide_i (by simp) ?_
    | refine wpSide_i (by constructor <;> decide) ?_
    | refine wpIdx_i (n := 0) rfl rfl rfl ?_
    | refine wpIdx_i (n := 1) rfl rfl rfl ?_
    | refine wpIdx_i (n := 2) rfl rfl rfl ?_
    | refine wpIdx_i (n := 3) rfl rfl rfl ?_
    | refine wpIdx_i (n := 4) rfl rfl rfl ?_
    | refine wpIdx_i (n := 5) rfl rfl rfl ?_
    | refine wpIdx_i (n := 6) rfl rfl rfl ?_
    | refine wpIdx_i (n := 7) rfl rfl rfl ?_
    | refine wpIdx_i (n := 8) rfl rfl rfl ?_
    | refine wpIdx_i (n := 9) rfl rfl rfl ?_
    | refine wpIdx_i (n := 10) rfl rfl rfl ?_
    | refine wpIdx_i (n := 11) rfl rfl rfl ?_
    | refine wpIdx_i (n := 12) rfl rfl rfl ?_
    | refine wpIdx_i (n := 13) rfl rfl rfl ?_
    | (apply wpCall_r; apply pcall_intro func194 rfl rfl)
    | (apply wpCall_r; apply pcall_intro func210 rfl rfl)
    | (apply wpCall_r; apply pcall_intro func211 rfl rfl)
    | (apply wpCall_r; apply pcall_intro func212 rfl rfl)
    | (apply wpCall_r; apply pcall_intro func213 rfl rfl)
    | (apply wpCall_r; apply pcall_intro func375 rfl rfl)
    | (apply wpCall_r; apply pcall_intro func376 rfl rfl)
    | refine ⟨rfl, ?_⟩
    | refine ⟨_, rfl, ?_⟩
    | exact rfl)
end Go.Fw
namespace Go.Fw
open Go Go.Proofs.Tryz
variable {I : CallRel}
/-! slices.Clone (PRINTED by mkT1.py) -/
set_option maxRecDepth 100000 in
theorem clone188 (xs : List (List Value)) (hk : ∀ es ∈ xs, es.length = 21) (hn : xs.length ≤ 1048576) :
    PCX I 188 [.one (.p (.sl xs))] [] (.ret (.one (.ref 0 xs.length))) [.vec 60 xs false] := by
  refine pcall_own func188 rfl rfl ?_
  conv => whnf
  refine ⟨fun b hb => ?_⟩
  cases b with
  | true =>
    have hx : xs = [] := by simpa using hb rfl
    subst hx
    conv => whnf
    refine ⟨_, mkS [(2, .one (.ref 0 0))] [(0, .vec 60 [] false)] 1 _ 0, rfl, le_mkS ⟨.inr ⟨0, rfl, newT rfl rfl rfl (Nat.zero_lt_succ _)⟩, trivial⟩ ⟨.inr ⟨rfl, _, rfl, Nat.zero_lt_succ _⟩, trivial⟩ rfl rfl, ?_⟩
    exact ⟨⟨[(0, 0)], _, rfl, Nat.zero_le _, trivial, ⟨⟨_, _, rfl, rfl, rfl, Nat.zero_le _, trivial⟩, trivial⟩, ⟨⟨trivial, rfl⟩, trivial⟩, rfl, rfl⟩⟩
  | false =>
    conv => whnf
    refine wpSide_i ⟨hk, rfl, ?_⟩ ?_
    · refine ⟨(?_ : (0 + _) * 184 ≤ _), (?_ : 0 + _ ≤ _)⟩ <;> omega
    conv => whnf
    refine ⟨_, mkS [(2, .one (.ref 0 (0 + xs.length)))] [(0, .vec 60 ([] ++ xs) false)] 1 _ 0, rfl, le_mkS ⟨.inl ⟨rfl, rfl⟩, trivial⟩ ⟨.inl ⟨rfl, rfl⟩, trivial⟩ rfl rfl, ?_⟩
    exact ⟨⟨[(0, 0 + xs.length)], _, rfl, Nat.zero_le _, trivial, ⟨⟨_, _, rfl, rfl, by simp, by show _ ≤ _; omega, trivial⟩, trivial⟩, ⟨⟨trivial, rfl⟩, trivial⟩, rfl, by simp [tupOf]⟩⟩
set_option maxRecDepth 100000 in
theorem clone285 (xs : List (List Value)) (hk : ∀ es ∈ xs, es.length = 1) (hn : xs.length ≤ 1048576) :
    PCX I 285 [.one (.p (.sl xs))] [] (.ret (.one (.ref 0 xs.length))) [.vec 9 xs false] := by
  refine pcall_own func285 rfl rfl ?_
  conv => whnf
  refine ⟨fun b hb => ?_⟩
  cases b with
  | true =>
    have hx : xs = [] := by simpa using hb rfl
    subst hx
    conv => whnf
    refine ⟨_, mkS [(2, .one (.ref 0 0))] [(0, .vec 9 [] false)] 1 _ 0, rfl, le_mkS ⟨.inr ⟨0, rfl, newT rfl rfl rfl (Nat.zero_lt_succ _)⟩, trivial⟩ ⟨.inr ⟨rfl, _, rfl, Nat.zero_lt_succ _⟩, trivial⟩ rfl rfl, ?_⟩
    exact ⟨⟨[(0, 0)], _, rfl, Nat.zero_le _, trivial, ⟨⟨_, _, rfl, rfl, rfl, Nat.zero_le _, trivial⟩, trivial⟩, ⟨⟨trivial, rfl⟩, trivial⟩, rfl, rfl⟩⟩
  | false =>
    conv => whnf
    refine wpSide_i ⟨hk, rfl, ?_⟩ ?_
    · refine ⟨(?_ : (0 + _) * 16 ≤ _), (?_ : 0 + _ ≤ _)⟩ <;> omega
    conv => whnf
    refine ⟨_, mkS [(2, .one (.ref 0 (0 + xs.length)))] [(0, .vec 9 ([] ++ xs) false)] 1 _ 0, rfl, le_mkS ⟨.inl ⟨rfl, rfl⟩, trivial⟩ ⟨.inl ⟨rfl, rfl⟩, trivial⟩ rfl rfl, ?_⟩
    exact ⟨⟨[(0, 0 + xs.length)], _, rfl, Nat.zero_le _, trivial, ⟨⟨_, _, rfl, rfl, by simp, by show _ ≤ _; omega, trivial⟩, trivial⟩, ⟨⟨trivial, rfl⟩, trivial⟩, rfl, by simp [tupOf]⟩⟩
set_option maxRecDepth 100000 in
theorem clone316 (xs : List (List Value)) (hk : ∀ es ∈ xs, es.length = 4) (hn : xs.length ≤ 1048576) :
    PCX I 316 [.one (.p (.sl xs))] [] (.ret (.one (.ref 0 xs.length))) [.vec 165 xs false] := by
  refine pcall_own func316 rfl rfl ?_
  conv => whnf
  refine ⟨fun b hb => ?_⟩
  cases b with
  | true =>
    have hx : xs = [] := by simpa using hb rfl
    subst hx
    conv => whnf
    refine ⟨_, mkS [(2, .one (.ref 0 0))] [(0, .vec 165 [] false)] 1 _ 0, rfl, le_mkS ⟨.inr ⟨0, rfl, newT rfl rfl rfl (Nat.zero_lt_succ _)⟩, trivial⟩ ⟨.inr ⟨rfl, _, rfl, Nat.zero_lt_succ _⟩, trivial⟩ rfl rfl, ?_⟩
    exact ⟨⟨[(0, 0)], _, rfl, Nat.zero_le _, trivial, ⟨⟨_, _, rfl, rfl, rfl, Nat.zero_le _, trivial⟩, trivial⟩, ⟨⟨trivial, rfl⟩, trivial⟩, rfl, rfl⟩⟩
  | false =>
    conv => whnf
    refine wpSide_i ⟨hk, rfl, ?_⟩ ?_
    · refine ⟨(?_ : (0 + _) * 40 ≤ _), (?_ : 0 + _ ≤ _)⟩ <;> omega
    conv => whnf
    refine ⟨_, mkS [(2, .one (.ref 0 (0 + xs.length)))] [(0, .vec 165 ([] ++ xs) false)] 1 _ 0, rfl, le_mkS ⟨.inl ⟨rfl, rfl⟩, trivial⟩ ⟨.inl ⟨rfl, rfl⟩, trivial⟩ rfl rfl, ?_⟩
    exact ⟨⟨[(0, 0 + xs.length)], _, rfl, Nat.zero_le _, trivial, ⟨⟨_, _, rfl, rfl, by simp, by show _ ≤ _; omega, trivial⟩, trivial⟩, ⟨⟨trivial, rfl⟩, trivial⟩, rfl, by simp [tupOf]⟩⟩
set_option maxRecDepth 100000 in
theorem clone195 (xs : List (List Value)) (hk : ∀ es ∈ xs, es.length = 4) (hn : xs.length ≤ 1048576) :
    PCX I 195 [.one (.p (.sl xs))] [] (.ret (.one (.ref 0 xs.length))) [.vec 72 xs false] := by
  refine pcall_own func195 rfl rfl ?_
  conv => whnf
  refine ⟨fun b hb => ?_⟩
  cases b with
  | true =>
    have hx : xs = [] := by simpa using hb rfl
    subst hx
    conv => whnf
    refine ⟨_, mkS [(2, .one (.ref 0 0))] [(0, .vec 72 [] false)] 1 _ 0, rfl, le_mkS ⟨.inr ⟨0, rfl, newT rfl rfl rfl (Nat.zero_lt_succ _)⟩, trivial⟩ ⟨.inr ⟨rfl, _, rfl, Nat.zero_lt_succ _⟩, trivial⟩ rfl rfl, ?_⟩
    exact ⟨⟨[(0, 0)], _, rfl, Nat.zero_le _, trivial, ⟨⟨_, _, rfl, rfl, rfl, Nat.zero_le _, trivial⟩, trivial⟩, ⟨⟨trivial, rfl⟩, trivial⟩, rfl, rfl⟩⟩
  | false =>
    conv => whnf
    refine wpSide_i ⟨hk, rfl, ?_⟩ ?_
    · refine ⟨(?_ : (0 + _) * 32 ≤ _), (?_ : 0 + _ ≤ _)⟩ <;> omega
    conv => whnf
    refine ⟨_, mkS [(2, .one (.ref 0 (0 + xs.length)))] [(0, .vec 72 ([] ++ xs) false)] 1 _ 0, rfl, le_mkS ⟨.inl ⟨rfl, rfl⟩, trivial⟩ ⟨.inl ⟨rfl, rfl⟩, trivial⟩ rfl rfl, ?_⟩
    exact ⟨⟨[(0, 0 + xs.length)], _, rfl, Nat.zero_le _, trivial, ⟨⟨_, _, rfl, rfl, by simp, by show _ ≤ _; omega, trivial⟩, trivial⟩, ⟨⟨trivial, rfl⟩, trivial⟩, rfl, by simp [tupOf]⟩⟩
set_option maxRecDepth 100000 in
theorem clone460 (xs : List (List Value)) (hk : ∀ es ∈ xs, es.length = 6) (hn : xs.length ≤ 1048576) :
    PCX I 460 [.one (.p (.sl xs))] [] (.ret (.one (.ref 0 xs.length))) [.vec 62 xs false] := by
  refine pcall_own func460 rfl rfl ?_
  conv => whnf
  refine ⟨fun b hb => ?_⟩
  cases b with
  | true =>
    have hx : xs = [] := by simpa using hb rfl
    subst hx
    conv => whnf
    refine ⟨_, mkS [(2, .one (.ref 0 0))] [(0, .vec 62 [] false)] 1 _ 0, rfl, le_mkS ⟨.inr ⟨0, rfl, newT rfl rfl rfl (Nat.zero_lt_succ _)⟩, trivial⟩ ⟨.inr ⟨rfl, _, rfl, Nat.zero_lt_succ _⟩, trivial⟩ rfl rfl, ?_⟩
    exact ⟨⟨[(0, 0)], _, rfl, Nat.zero_le _, trivial, ⟨⟨_, _, rfl, rfl, rfl, Nat.zero_le _, trivial⟩, trivial⟩, ⟨⟨trivial, rfl⟩, trivial⟩, rfl, rfl⟩⟩
  | false =>
    conv => whnf
    refine wpSide_i ⟨hk, rfl, ?_⟩ ?_
    · refine ⟨(?_ : (0 + _) * 56 ≤ _), (?_ : 0 + _ ≤ _)⟩ <;> omega
    conv => whnf
    refine ⟨_, mkS [(2, .one (.ref 0 (0 + xs.length)))] [(0, .vec 62 ([] ++ xs) false)] 1 _ 0, rfl, le_mkS ⟨.inl ⟨rfl, rfl⟩, trivial⟩ ⟨.inl ⟨rfl, rfl⟩, trivial⟩ rfl rfl, ?_⟩
    exact ⟨⟨[(0, 0 + xs.length)], _, rfl, Nat.zero_le _, trivial, ⟨⟨_, _, rfl, rfl, by simp, by show _ ≤ _; omega, trivial⟩, trivial⟩, ⟨⟨trivial, rfl⟩, trivial⟩, rfl, by simp [tupOf]⟩⟩
set_option maxRecDepth 100000 in
theorem clone360 (xs : List (List Value)) (hk : ∀ es ∈ xs, es.length = 5) (hn : xs.length ≤ 1048576) :
    PCX I 360 [.one (.p (.sl xs))] [] (.ret (.one (.ref 0 xs.length))) [.vec 70 xs false] := by
  refine pcall_own func360 rfl rfl ?_
  conv => whnf
  refine ⟨fun b hb => ?_⟩
  cases b with
  | true =>
    have hx : xs = [] := by simpa using hb rfl
    subst hx
    conv => whnf
    refine ⟨_, mkS [(2, .one (.ref 0 0))] [(0, .vec 70 [] false)] 1 _ 0, rfl, le_mkS ⟨.inr ⟨0, rfl, newT rfl rfl rfl (Nat.zero_lt_succ _)⟩, trivial⟩ ⟨.inr ⟨rfl, _, rfl, Nat.zero_lt_succ _⟩, trivial⟩ rfl rfl, ?_⟩
    exact ⟨⟨[(0, 0)], _, rfl, Nat.zero_le _, trivial, ⟨⟨_, _, rfl, rfl, rfl, Nat.zero_le _, trivial⟩, trivial⟩, ⟨⟨trivial, rfl⟩, trivial⟩, rfl, rfl⟩⟩
  | false =>
    conv => whnf
    refine wpSide_i ⟨hk, rfl, ?_⟩ ?_
    · refine ⟨(?_ : (0 + _) * 56 ≤ _), (?_ : 0 + _ ≤ _)⟩ <;> omega
    conv => whnf
    refine ⟨_, mkS [(2, .one (.ref 0 (0 + xs.length)))] [(0, .vec 70 ([] ++ xs) false)] 1 _ 0, rfl, le_mkS ⟨.inl ⟨rfl, rfl⟩, trivial⟩ ⟨.inl ⟨rfl, rfl⟩, trivial⟩ rfl rfl, ?_⟩
    exact ⟨⟨[(0, 0 + xs.length)], _, rfl, Nat.zero_le _, trivial, ⟨⟨_, _, rfl, rfl, by simp, by show _ ≤ _; omega, trivial⟩, trivial⟩, ⟨⟨trivial, rfl⟩, trivial⟩, rfl, by simp [tupOf]⟩⟩
end Go.Fw
namespace Go.Fw
open Go Go.Proofs.Tryz
variable {I : CallRel}
set_option maxRecDepth 100000 in
theorem al169e : PCX I 169 [.one (.p (.sl []))] [] (.ret (.tup [.one (.p (.sl [])), .one (.p (.v (vI 0)))])) [] := by
  refine pcall_intro func169 rfl rfl ?_
  repeat' ((conv => whnf) <;> first
    | refine wpB_t rfl ?_
    | refine wpB_f rfl ?_
    | refine wpLen_i ?_
    | refine wpN_e (n := 0) rfl ?_
    | refine wpN_e (n := 1) rfl ?_
    | refine wpN_e (n := 2) rfl ?_
    | refine wpN_e (n := 3) rfl ?_
    | refine wpN_e (n := 4) rfl ?_
    | refine wpN_e (n := 5) rfl ?_
    | refine wpN_e (n := 6) rfl ?_
    | refine wpN_e (n := 7) rfl ?_
    | refine wpN_e (n := 8) rfl ?_
    | refine wpN_e (n := 9) rfl ?_
    | refine wpN_e (n := 10) rfl ?_
    | refine wpN_e (n := 11) rfl ?_
    | refine wpN_e (n := 12) rfl ?_
    | refine wpN_e (n := 13) rfl ?_
    | refine wpN_e (n := -1) rfl ?_
    | refine wpN_e (n := 100) rfl ?_
    | refine wpN_e (n := 1099511627776) rfl ?_
    | refine loop_unroll' ?_
    | refine wpRegD_i rfl ?_
    | refine wpSide_i ⟨rfl, trivial⟩ ?_
    | refine wpSide_i trivial ?_
    | refine wpSide_i (by decide) ?_
    | refine wpSide_i (by simp) ?_
    | refine wpSide_i (by constructor <;> decide) ?_
    | refine wpIdx_i (n := 0) rfl rfl rfl ?_
    | refine wpIdx_i (n := 1) rfl rfl rfl ?_
    | refine wpIdx_i (n := 2) rfl rfl rfl ?_
    | refine wpIdx_i (n := 3) rfl rfl rfl ?_
    | refine wpIdx_i (n := 4) rfl rfl rfl ?_
    | refine wpIdx_i (n := 5) rfl rfl rfl ?_
    | refine wpIdx_i (n := 6) rfl rfl rfl ?_
    | refine wpIdx_i (n := 7) rfl rfl rfl ?_
    | refine wpIdx_i (n := 8) rfl rfl rfl ?_
    | refine wpIdx_i (n := 9) rfl rfl rfl ?_
    | refine wpIdx_i (n := 10) rfl rfl rfl ?_
    | refine wpIdx_i (n := 11) rfl rfl rfl ?_
    | refine wpIdx_i (n := 12) rfl rfl rfl ?_
    | refine wpIdx_i (n := 13) rfl rfl rfl ?_
    | (apply wpCall_r; apply pcall_intro func76 rfl rfl)
    | (apply wpCall_r; apply pcall_intro func94 rfl rfl)
    | (apply wpCall_r; apply pcall_intro func100 rfl rfl)
    | (apply wpCall_r; apply pcall_intro func168 rfl rfl)
    | (apply wpCall_r; apply pcall_intro func197 rfl rfl)
    | (apply wpCall_r; apply pcall_intro func198 rfl rfl)
    | (apply wpCall_r; apply pcall_intro func199 rfl rfl)
    | (apply wpCall_r; apply pcall_intro func200 rfl rfl)
    | (apply wpCall_r; apply pcall_intro func201 rfl rfl)
    | (apply wpCall_r; apply pcall_intro func202 rfl rfl)
    | (apply wpCall_r; apply pcall_intro func203 rfl rfl)
    | (apply wpCall_r; apply pcall_intro func204 rfl rfl)
    | (apply wpCall_r; apply pcall_intro func205 rfl rfl)
    | (apply wpCall_r; apply pcall_intro func206 rfl rfl)
    | (apply wpCall_r; apply pcall_intro func214 rfl rfl)
    | (apply wpCall_r; apply pcall_intro func248 rfl rfl)
    | (apply wpCall_r; apply pcall_intro func311 rfl rfl)
    | (apply wpCall_r; apply pcall_intro func313 rfl rfl)
    | (apply wpCall_r; apply pcall_intro func314 rfl rfl)
    | (apply wpCall_r; apply pcall_intro func315 rfl rfl)
    | (apply wpCall_r; apply pcall_intro func316 rfl rfl)
    | (apply wpCall_r; apply pcall_intro func317 rfl rfl)
    | (apply wpCall_r; apply pcall_intro func365 rfl rfl)
    | (apply wpCall_r; apply pcall_intro func366 rfl rfl)
    | (apply wpCall_r; apply pcall_intro func367 rfl rfl)
    | (apply wpCall_r; apply pcall_intro func368 rfl rfl)
    | (apply wpCall_r; apply pcall_intro func369 rfl rfl)
    | (apply wpCall_r; apply pcall_intro func370 rfl rfl)
    | (apply wpCall_r; apply pcall_intro func384 rfl rfl)
    | (apply wpCall_r; apply pcall_intro func444 rfl rfl)
    | (apply wpCall_r; apply pcall_intro func445 rfl rfl)
    | (apply wpCall_r; apply pcall_intro func446 rfl rfl)
    | (apply wpCall_r; apply pcall_intro func447 rfl rfl)
    | (apply wpCall_r; apply pcall_intro func448 rfl rfl)
    | (apply wpCall_r; apply pcall_intro func449 rfl rfl)
    | (apply wpCall_r; apply pcall_intro func481 rfl rfl)
    | (apply wpCall_r; apply pcall_intro func482 rfl rfl)
    | (apply wpCall_r; apply pcall_intro func488 rfl rfl)
    | (apply wpCall_r; apply pcall_intro func489 rfl rfl)
    | (apply wpCall_r; apply pcall_intro func490 rfl rfl)
    | (apply wpCall_r; apply pcall_intro func521 rfl rfl)
    | (apply wpCall_r; apply pcall_intro func522 rfl rfl)
    | (apply wpCall_r; apply pcall_intro func523 rfl rfl)
    | (apply wpCall_r; apply pcall_intro func524 rfl rfl)
    | (apply wpCall_r; apply pcall_intro func525 rfl rfl)
    | (apply wpCall_r; apply pcall_intro func526 rfl rfl)
    | (apply wpCall_r; apply pcall_intro func527 rfl rfl)
    | (apply wpCall_r; apply pcall_intro func528 rfl rfl)
    | (apply wpCall_r; apply pcall_intro func529 rfl rfl)
    | (apply wpCall_r; apply pcall_intro func530 rfl rfl)
    | (apply wpCall_r; apply pcall_intro func531 rfl rfl)
    | (apply wpCall_r; apply pcall_intro func564 rfl rfl)
    | (apply wpCall_r; apply pcall_intro func565 rfl rfl)
    | (apply wpCall_r; apply pcall_intro func572 rfl rfl)
    | (apply wpCall_r; apply pcall_intro func573 rfl rfl)
    | (apply wpCall_r; apply pcall_intro func574 rfl rfl)
    | (apply wpCall_r; apply pcall_intro func575 rfl rfl)
    | (apply wpCall_r; apply pcall_intro func576 rfl rfl)
    | (apply wpCall_r; apply pcall_intro func596 rfl rfl)
    | refine ⟨⟨.ret _, _, clone316 _ (by simp) (by simp), ?_⟩⟩
    | refine ⟨⟨.ret _, _, clone188 _ (by simp) (by simp), ?_⟩⟩
    | refine ⟨⟨.ret _, _, clone285 _ (by simp) (by simp), ?_⟩⟩
    | refine ⟨⟨.ret _, _, clone195 _ (by simp) (by simp), ?_⟩⟩
    | refine ⟨⟨.ret _, _, clone460 _ (by simp) (by simp), ?_⟩⟩
    | refine ⟨⟨.ret _, _, clone360 _ (by simp) (by simp), ?_⟩⟩
    | refine ⟨rfl, ?_⟩
    | refine ⟨_, rfl, ?_⟩
    | exact rfl)
end Go.Fw
namespace Go.Fw
open Go Go.Proofs.Tryz
variable {I : CallRel}
set_option maxRecDepth 100000 in
theorem al77e : PCX I 77 [.one (.p (.sl []))] [] (.ret (.tup [.one (.p (.sl [])), .one (.p (.v (vI 0)))])) [] := by
  refine pcall_intro func77 rfl rfl ?_
  repeat' ((conv => whnf) <;> first
    | refine wpB_t rfl ?_
    | refine wpB_f rfl ?_
    | refine wpLen_i ?_
    | refine wpN_e (n := 0) rfl ?_
    | refine wpN_e (n := 1) rfl ?_
    | refine wpN_e (n := 2) rfl ?_
    | refine wpN_e (n := 3) rfl ?_
    | refine wpN_e (n := 4) rfl ?_
    | refine wpN_e (n := 5) rfl ?_
    | refine wpN_e (n := 6) rfl ?_
    | refine wpN_e (n := 7) rfl ?_
    | refine wpN_e (n := 8) rfl ?_
    | refine wpN_e (n := 9) rfl ?_
    | refine wpN_e (n := 10) rfl ?_
    | refine wpN_e (n := 11) rfl ?_
    | refine wpN_e (n := 12) rfl ?_
    | refine wpN_e (n := 13) rfl ?_
    | refine wpN_e (n := -1) rfl ?_
    | refine wpN_e (n := 100) rfl ?_
    | refine wpN_e (n := 1099511627776) rfl ?_
    | refine loop_unroll' ?_
    | refine wpRegD_i rfl ?_
    | refine wpSide_i ⟨rfl, trivial⟩ ?_
    | refine wpSide_i trivial ?_
    | refine wpSide_i (by decide) ?_
    | refine wpSide_i (by simp) ?_
    | refine wpSide_i (by constructor <;> decide) ?_
    | refine wpIdx_i (n := 0) rfl rfl rfl ?_
    | refine wpIdx_i (n := 1) rfl rfl rfl ?_
    | refine wpIdx_i (n := 2) rfl rfl rfl ?_
    | refine wpIdx_i (n := 3) rfl rfl rfl ?_
    | refine wpIdx_i (n := 4) rfl rfl rfl ?_
    | refine wpIdx_i (n := 5) rfl rfl rfl ?_
    | refine wpIdx_i (n := 6) rfl rfl rfl ?_
    | refine wpIdx_i (n := 7) rfl rfl rfl ?_
    | refine wpIdx_i (n := 8) rfl rfl rfl ?_
    | refine wpIdx_i (n := 9) rfl rfl rfl ?_
    | refine wpIdx_i (n := 10) rfl rfl rfl ?_
    | refine wpIdx_i (n := 11) rfl rfl rfl ?_
    | refine wpIdx_i (n := 12) rfl rfl rfl ?_
    | refine wpIdx_i (n := 13) rfl rfl rfl ?_
    | refine wpCall_r al96e ?_
    | refine wpCall_r al169e ?_
    | refine ⟨rfl, ?_⟩
    | refine ⟨_, rfl, ?_⟩
    | exact rfl)
set_option maxRecDepth 100000 in
theorem al78e : PCX I 78 [.one (.p (.sl []))] [] (.ret (.tup [.one (.p (.sl [])), .one (.p (.v (vI 0)))])) [] := by
  refine pcall_intro func78 rfl rfl ?_
  repeat' ((conv => whnf) <;> first
    | refine wpB_t rfl ?_
    | refine wpB_f rfl ?_
    | refine wpLen_i ?_
    | refine wpN_e (n := 0) rfl ?_
    | refine wpN_e (n := 1) rfl ?_
    | refine wpN_e (n := 2) rfl ?_
    | refine wpN_e (n := 3) rfl ?_
    | refine wpN_e (n := 4) rfl ?_
    | refine wpN_e (n := 5) rfl ?_
    | refine wpN_e (n := 6) rfl ?_
    | refine wpN_e (n := 7) rfl ?_
    | refine wpN_e (n := 8) rfl ?_
    | refine wpN_e (n := 9) rfl ?_
    | refine wpN_e (n := 10) rfl ?_
    | refine wpN_e (n := 11) rfl ?_
    | refine wpN_e (n := 12) rfl ?_
    | refine wpN_e (n := 13) rfl ?_
    | refine wpN_e (n := -1) rfl ?_
    | refine wpN_e (n := 100) rfl ?_
    | refine wpN_e (n := 1099511627776) rfl ?_
    | refine loop_unroll' ?_
    | refine wpRegD_i rfl ?_
    | refine wpSide_i ⟨rfl, trivial⟩ ?_
    | refine wpSide_i trivial ?_
    | refine wpSide_i (by decide) ?_
    | refine wpSide_i (by simp) ?_
    | refine wpSide_i (by constructor <;> decide) ?_
    | refine wpIdx_i (n := 0) rfl rfl rfl ?_
    | refine wpIdx_i (n := 1) rfl rfl rfl ?_
    | refine wpIdx_i (n := 2) rfl rfl rfl ?_
    | refine wpIdx_i (n := 3) rfl rfl rfl ?_
    | refine wpIdx_i (n := 4) rfl rfl rfl ?_
    | refine wpIdx_i (n := 5) rfl rfl rfl ?_
    | refine wpIdx_i (n := 6) rfl rfl rfl ?_
    | refine wpIdx_i (n := 7) rfl rfl rfl ?_
    | refine wpIdx_i (n := 8) rfl rfl rfl ?_
    | refine wpIdx_i (n := 9) rfl rfl rfl ?_
    | refine wpIdx_i (n := 10) rfl rfl rfl ?_
    | refine wpIdx_i (n := 11) rfl rfl rfl ?_
    | refine wpIdx_i (n := 12) rfl rfl rfl ?_
    | refine wpIdx_i (n := 13) rfl rfl rfl ?_
    | refine wpCall_r al96e ?_
    | refine ⟨rfl, ?_⟩
    | refine ⟨_, rfl, ?_⟩
    | exact rfl)
set_option maxRecDepth 100000 in
theorem al27e : PCX I 27 [.w (.agg [.p (.sl []), .p (.sl []), .p (.sl []), .p (.sl []), .p (.sl []), .p (.sl []), .p (.v (vI 0)), .p (.sl []), .p (.v (vI 0)), .p (.v (vI 0))])] [] (.ret (AV.bool true)) [] := by
  refine pcall_intro func27 rfl rfl ?_
  repeat' ((conv => whnf) <;> first
    | refine wpB_t rfl ?_
    | refine wpB_f rfl ?_
    | refine wpLen_i ?_
    | refine wpN_e (n := 0) rfl ?_
    | refine wpN_e (n := 1) rfl ?_
    | refine wpN_e (n := 2) rfl ?_
    | refine wpN_e (n := 3) rfl ?_
    | refine wpN_e (n := 4) rfl ?_
    | refine wpN_e (n := 5) rfl ?_
    | refine wpN_e (n := 6) rfl ?_
    | refine wpN_e (n := 7) rfl ?_
    | refine wpN_e (n := 8) rfl ?_
    | refine wpN_e (n := 9) rfl ?_
    | refine wpN_e (n := 10) rfl ?_
    | refine wpN_e (n := 11) rfl ?_
    | refine wpN_e (n := 12) rfl ?_
    | refine wpN_e (n := 13) rfl ?_
    | refine wpN_e (n := -1) rfl ?_
    | refine wpN_e (n := 100) rfl ?_
    | refine wpN_e (n := 1099511627776) rfl ?_
    | refine loop_unroll' ?_
    | refine wpRegD_i rfl ?_
    | refine wpSide_i ⟨rfl, trivial⟩ ?_
    | refine wpSide_i trivial ?_
    | refine wpSide_i (by decide) ?_
    | refine wpSide_i (by simp) ?_
    | refine wpSide_i (by constructor <;> decide) ?_
    | refine wpIdx_i (n := 0) rfl rfl rfl ?_
    | refine wpIdx_i (n := 1) rfl rfl rfl ?_
    | refine wpIdx_i (n := 2) rfl rfl rfl ?_
    | refine wpIdx_i (n := 3) rfl rfl rfl ?_
    | refine wpIdx_i (n := 4) rfl rfl rfl ?_
    | refine wpIdx_i (n := 5) rfl rfl rfl ?_
    | refine wpIdx_i (n := 6) rfl rfl rfl ?_
    | refine wpIdx_i (n := 7) rfl rfl rfl ?_
    | refine wpIdx_i (n := 8) rfl rfl rfl ?_
    | refine wpIdx_i (n := 9) rfl rfl rfl ?_
    | refine wpIdx_i (n := 10) rfl rfl rfl ?_
    | refine wpIdx_i (n := 11) rfl rfl rfl ?_
    | refine wpIdx_i (n := 12) rfl rfl rfl ?_
    | refine wpIdx_i (n := 13) rfl rfl rfl ?_
    | refine wpCall_r al94e ?_
    | refine wpCall_r al95e ?_
    | refine wpCall_r al96e ?_
    | refine wpCall_r al97e ?_
    | refine wpCall_r al77e ?_
    | refine wpCall_r al78e ?_
    | (apply wpCall_r; apply pcall_intro func47 rfl rfl)
    | (apply wpCall_r; apply pcall_intro func76 rfl rfl)
    | (apply wpCall_r; apply pcall_intro func79 rfl rfl)
    | (apply wpCall_r; apply pcall_intro func98 rfl rfl)
    | (apply wpCall_r; apply pcall_intro func99 rfl rfl)
    | (apply wpCall_r; apply pcall_intro func100 rfl rfl)
    | (apply wpCall_r; apply pcall_intro func101 rfl rfl)
    | (apply wpCall_r; apply pcall_intro func102 rfl rfl)
    | (apply wpCall_r; apply pcall_intro func103 rfl rfl)
    | (apply wpCall_r; apply pcall_intro func104 rfl rfl)
    | (apply wpCall_r; apply pcall_intro func105 rfl rfl)
    | (apply wpCall_r; apply pcall_intro func130 rfl rfl)
    | (apply wpCall_r; apply pcall_intro func168 rfl rfl)
    | (apply wpCall_r; apply pcall_intro func172 rfl rfl)
    | (apply wpCall_r; apply pcall_intro func212 rfl rfl)
    | (apply wpCall_r; apply pcall_intro func213 rfl rfl)
    | (apply wpCall_r; apply pcall_intro func214 rfl rfl)
    | (apply wpCall_r; apply pcall_intro func215 rfl rfl)
    | (apply wpCall_r; apply pcall_intro func247 rfl rfl)
    | (apply wpCall_r; apply pcall_intro func248 rfl rfl)
    | (apply wpCall_r; apply pcall_intro func249 rfl rfl)
    | (apply wpCall_r; apply pcall_intro func250 rfl rfl)
    | (apply wpCall_r; apply pcall_intro func251 rfl rfl)
    | (apply wpCall_r; apply pcall_intro func252 rfl rfl)
    | (apply wpCall_r; apply pcall_intro func314 rfl rfl)
    | (apply wpCall_r; apply pcall_intro func315 rfl rfl)
    | (apply wpCall_r; apply pcall_intro func363 rfl rfl)
    | (apply wpCall_r; apply pcall_intro func375 rfl rfl)
    | (apply wpCall_r; apply pcall_intro func376 rfl rfl)
    | (apply wpCall_r; apply pcall_intro func384 rfl rfl)
    | (apply wpCall_r; apply pcall_intro func385 rfl rfl)
    | (apply wpCall_r; apply pcall_intro func386 rfl rfl)
    | (apply wpCall_r; apply pcall_intro func387 rfl rfl)
    | (apply wpCall_r; apply pcall_intro func388 rfl rfl)
    | (apply wpCall_r; apply pcall_intro func389 rfl rfl)
    | (apply wpCall_r; apply pcall_intro func390 rfl rfl)
    | (apply wpCall_r; apply pcall_intro func391 rfl rfl)
    | (apply wpCall_r; apply pcall_intro func392 rfl rfl)
    | (apply wpCall_r; apply pcall_intro func447 rfl rfl)
    | (apply wpCall_r; apply pcall_intro func488 rfl rfl)
    | (apply wpCall_r; apply pcall_intro func489 rfl rfl)
    | (apply wpCall_r; apply pcall_intro func490 rfl rfl)
    | (apply wpCall_r; apply pcall_intro func564 rfl rfl)
    | (apply wpCall_r; apply pcall_intro func565 rfl rfl)
    | refine ⟨rfl, ?_⟩
    | refine ⟨_, rfl, ?_⟩
    | exact rfl)
end Go.Fw
namespace Go.Fw
open Go Go.Proofs.Tryz
variable {I : CallRel}
structure Cmd where
  kind : Int
  sku : Str
  to : Str
  a : Int
  b : Int
  c : Int
  d : Int
  e : Int
  f : Int
  yes : Bool
def Cmd.v (c : Cmd) : List Value := [vI c.kind, vS c.sku, vS c.to, vI c.a, vI c.b, vI c.c, vI c.d, vI c.e, vI c.f, .bool c.yes]
set_option maxRecDepth 100000 in
theorem numbers109 (k : Int) (s t : Str) (a b c d e f : Int) (y : Bool) :
    PCX I 109 [.w (.agg [.p (.v (vI k)), .p (.v (vS s)), .p (.v (vS t)), .p (.v (vI a)), .p (.v (vI b)), .p (.v (vI c)), .p (.v (vI d)), .p (.v (vI e)), .p (.v (vI f)), .p (.v (.bool y))])] []
      (.ret (.one (.ref 0 6))) [.vec 3 [[vI a], [vI b], [vI c], [vI d], [vI e], [vI f]] false] := by
  refine pcall_own func109 rfl rfl ?_
  conv => whnf
  refine ⟨_, mkS [(2, .one (.ref 1 6))] [(1, .vec 3 [[vI a], [vI b], [vI c], [vI d], [vI e], [vI f]] false)] 2 _ 0, rfl, le_mkS ⟨.inl ⟨rfl, rfl⟩, trivial⟩ ⟨.inl ⟨rfl, rfl⟩, trivial⟩ rfl rfl, ?_⟩
  exact ⟨⟨[(1, 6)], _, rfl, Nat.zero_le _, trivial, ⟨⟨_, _, rfl, rfl, rfl, by decide, trivial⟩, trivial⟩, ⟨⟨trivial, rfl⟩, trivial⟩, rfl, rfl⟩⟩
end Go.Fw
namespace Go.Fw
open Go Go.Proofs.Tryz
variable {I : CallRel}
set_option maxRecDepth 100000 in
theorem al94c : PCX I 94 [.w (.agg [.p (.sl [[vS [99, 117, 112]]]), .p (.sl [])])] [] (.ret (AV.bool true)) [] := by
  refine pcall_intro func94 rfl rfl ?_
  repeat' ((conv => whnf) <;> first
    | refine wpB_t rfl ?_
    | refine wpB_f rfl ?_
    | refine wpLen_i ?_
    | refine wpN_e (n := 0) rfl ?_
    | refine wpN_e (n := 1) rfl ?_
    | refine wpN_e (n := 2) rfl ?_
    | refine wpN_e (n := 3) rfl ?_
    | refine wpN_e (n := 4) rfl ?_
    | refine wpN_e (n := 5) rfl ?_
    | refine wpN_e (n := 6) rfl ?_
    | refine wpN_e (n := 7) rfl ?_
    | refine wpN_e (n := 8) rfl ?_
    | refine wpN_e (n := 9) rfl ?_
    | refine wpN_e (n := 10) rfl ?_
    | refine wpN_e (n := 11) rfl ?_
    | refine wpN_e (n := 12) rfl ?_
    | refine wpN_e (n := 13) rfl ?_
    | refine wpN_e (n := -1) rfl ?_
    | refine wpN_e (n := 100) rfl ?_
    | refine wpN_e (n := 1099511627776) rfl ?_
    | refine loop_unroll' ?_
    | refine wpRegD_i rfl ?_
    | refine wpSide_i ⟨rfl, trivial⟩ ?_
    | refine wpSide_i trivial ?_
    | refine wpSide_i (by decide) ?_
    | refine wpSide_i (by simp) ?_
    | refine wpSide_i (by constructor <;> decide) ?_
    | refine wpIdx_i (n := 0) rfl rfl rfl ?_
    | refine wpIdx_i (n := 1) rfl rfl rfl ?_
    | refine wpIdx_i (n := 2) rfl rfl rfl ?_
    | refine wpIdx_i (n := 3) rfl rfl rfl ?_
    | refine wpIdx_i (n := 4) rfl rfl rfl ?_
    | refine wpIdx_i (n := 5) rfl rfl rfl ?_
    | refine wpIdx_i (n := 6) rfl rfl rfl ?_
    | refine wpIdx_i (n := 7) rfl rfl rfl ?_
    | refine wpIdx_i (n := 8) rfl rfl rfl ?_
    | refine wpIdx_i (n := 9) rfl rfl rfl ?_
    | refine wpIdx_i (n := 10) rfl rfl rfl ?_
    | refine wpIdx_i (n := 11) rfl rfl rfl ?_
    | refine wpIdx_i (n := 12) rfl rfl rfl ?_
    | refine wpIdx_i (n := 13) rfl rfl rfl ?_
    | (apply wpCall_r; apply pcall_intro func100 rfl rfl)
    | (apply wpCall_r; apply pcall_intro func197 rfl rfl)
    | (apply wpCall_r; apply pcall_intro func198 rfl rfl)
    | (apply wpCall_r; apply pcall_intro func199 rfl rfl)
    | (apply wpCall_r; apply pcall_intro func200 rfl rfl)
    | (apply wpCall_r; apply pcall_intro func201 rfl rfl)
    | (apply wpCall_r; apply pcall_intro func202 rfl rfl)
    | (apply wpCall_r; apply pcall_intro func203 rfl rfl)
    | (apply wpCall_r; apply pcall_intro func204 rfl rfl)
    | (apply wpCall_r; apply pcall_intro func205 rfl rfl)
    | (apply wpCall_r; apply pcall_intro func206 rfl rfl)
    | (apply wpCall_r; apply pcall_intro func214 rfl rfl)
    | (apply wpCall_r; apply pcall_intro func314 rfl rfl)
    | (apply wpCall_r; apply pcall_intro func315 rfl rfl)
    | (apply wpCall_r; apply pcall_intro func365 rfl rfl)
    | (apply wpCall_r; apply pcall_intro func366 rfl rfl)
    | (apply wpCall_r; apply pcall_intro func367 rfl rfl)
    | (apply wpCall_r; apply pcall_intro func368 rfl rfl)
    | (apply wpCall_r; apply pcall_intro func369 rfl rfl)
    | (apply wpCall_r; apply pcall_intro func370 rfl rfl)
    | (apply wpCall_r; apply pcall_intro func447 rfl rfl)
    | (apply wpCall_r; apply pcall_intro func481 rfl rfl)
    | (apply wpCall_r; apply pcall_intro func482 rfl rfl)
    | refine ⟨rfl, ?_⟩
    | refine ⟨_, rfl, ?_⟩
    | exact rfl)
set_option maxRecDepth 100000 in
theorem al120c : PCX I 120 [.str [99, 117, 112]] [] (.ret (AV.bool true)) [] := by
  refine pcall_intro func120 rfl rfl ?_
  repeat' ((conv => whnf) <;> first
    | refine wpB_t rfl ?_
    | refine wpB_f rfl ?_
    | refine wpLen_i ?_
    | refine wpN_e (n := 0) rfl ?_
    | refine wpN_e (n := 1) rfl ?_
    | refine wpN_e (n := 2) rfl ?_
    | refine wpN_e (n := 3) rfl ?_
    | refine wpN_e (n := 4) rfl ?_
    | refine wpN_e (n := 5) rfl ?_
    | refine wpN_e (n := 6) rfl ?_
    | refine wpN_e (n := 7) rfl ?_
    | refine wpN_e (n := 8) rfl ?_
    | refine wpN_e (n := 9) rfl ?_
    | refine wpN_e (n := 10) rfl ?_
    | refine wpN_e (n := 11) rfl ?_
    | refine wpN_e (n := 12) rfl ?_
    | refine wpN_e (n := 13) rfl ?_
    | refine wpN_e (n := -1) rfl ?_
    | refine wpN_e (n := 100) rfl ?_
    | refine wpN_e (n := 1099511627776) rfl ?_
    | refine loop_unroll' ?_
    | refine wpRegD_i rfl ?_
    | refine wpSide_i ⟨rfl, trivial⟩ ?_
    | refine wpSide_i trivial ?_
    | refine wpSide_i (by decide) ?_
    | refine wpSide_i (by simp) ?_
    | refine wpSide_i (by constructor <;> decide) ?_
    | refine wpIdx_i (n := 0) rfl rfl rfl ?_
    | refine wpIdx_i (n := 1) rfl rfl rfl ?_
    | refine wpIdx_i (n := 2) rfl rfl rfl ?_
    | refine wpIdx_i (n := 3) rfl rfl rfl ?_
    | refine wpIdx_i (n := 4) rfl rfl rfl ?_
    | refine wpIdx_i (n := 5) rfl rfl rfl ?_
    | refine wpIdx_i (n := 6) rfl rfl rfl ?_
    | refine wpIdx_i (n := 7) rfl rfl rfl ?_
    | refine wpIdx_i (n := 8) rfl rfl rfl ?_
    | refine wpIdx_i (n := 9) rfl rfl rfl ?_
    | refine wpIdx_i (n := 10) rfl rfl rfl ?_
    | refine wpIdx_i (n := 11) rfl rfl rfl ?_
    | refine wpIdx_i (n := 12) rfl rfl rfl ?_
    | refine wpIdx_i (n := 13) rfl rfl rfl ?_
    | refine wpCall_r al94c ?_
    | refine ⟨rfl, ?_⟩
    | refine ⟨_, rfl, ?_⟩
    | exact rfl)
set_option maxRecDepth 100000 in
theorem al118c : PCX I 118 [.val (.int .i32 115), .str [99, 117, 112], .one (.pv [.v (vS [115])] 0)] [] (.ret (AV.bool true)) [] := by
  refine pcall_intro func118 rfl rfl ?_
  repeat' ((conv => whnf) <;> first
    | refine wpB_t rfl ?_
    | refine wpB_f rfl ?_
    | refine wpLen_i ?_
    | refine wpN_e (n := 0) rfl ?_
    | refine wpN_e (n := 1) rfl ?_
    | refine wpN_e (n := 2) rfl ?_
    | refine wpN_e (n := 3) rfl ?_
    | refine wpN_e (n := 4) rfl ?_
    | refine wpN_e (n := 5) rfl ?_
    | refine wpN_e (n := 6) rfl ?_
    | refine wpN_e (n := 7) rfl ?_
    | refine wpN_e (n := 8) rfl ?_
    | refine wpN_e (n := 9) rfl ?_
    | refine wpN_e (n := 10) rfl ?_
    | refine wpN_e (n := 11) rfl ?_
    | refine wpN_e (n := 12) rfl ?_
    | refine wpN_e (n := 13) rfl ?_
    | refine wpN_e (n := -1) rfl ?_
    | refine wpN_e (n := 100) rfl ?_
    | refine wpN_e (n := 1099511627776) rfl ?_
    | refine loop_unroll' ?_
    | refine wpRegD_i rfl ?_
    | refine wpSide_i ⟨rfl, trivial⟩ ?_
    | refine wpSide_i trivial ?_
    | refine wpSide_i (by decide) ?_
    | refine wpSide_i (by simp) ?_
    | refine wpSide_i (by constructor <;> decide) ?_
    | refine wpIdx_i (n := 0) rfl rfl rfl ?_
    | refine wpIdx_i (n := 1) rfl rfl rfl ?_
    | refine wpIdx_i (n := 2) rfl rfl rfl ?_
    | refine wpIdx_i (n := 3) rfl rfl rfl ?_
    | refine wpIdx_i (n := 4) rfl rfl rfl ?_
    | refine wpIdx_i (n := 5) rfl rfl rfl ?_
    | refine wpIdx_i (n := 6) rfl rfl rfl ?_
    | refine wpIdx_i (n := 7) rfl rfl rfl ?_
    | refine wpIdx_i (n := 8) rfl rfl rfl ?_
    | refine wpIdx_i (n := 9) rfl rfl rfl ?_
    | refine wpIdx_i (n := 10) rfl rfl rfl ?_
    | refine wpIdx_i (n := 11) rfl rfl rfl ?_
    | refine wpIdx_i (n := 12) rfl rfl rfl ?_
    | refine wpIdx_i (n := 13) rfl rfl rfl ?_
    | refine wpCall_r al120c ?_
    | (apply wpCall_r; apply pcall_intro func119 rfl rfl)
    | refine ⟨rfl, ?_⟩
    | refine ⟨_, rfl, ?_⟩
    | exact rfl)
set_option maxRecDepth 100000 in
theorem al35c : PCX I 35 [.w (.agg [.p (.v (vI 1)), .p (.v (vS [99, 117, 112])), .p (.v (vS [])), .p (.v (vI 0)), .p (.v (vI 0)), .p (.v (vI 0)), .p (.v (vI 0)), .p (.v (vI 0)), .p (.v (vI 0)), .p (.v (.bool false))])] [] (.ret (AV.bool true)) [] := by
  refine pcall_intro func35 rfl rfl ?_
  repeat' ((conv => whnf) <;> first
    | refine wpB_t rfl ?_
    | refine wpB_f rfl ?_
    | refine wpLen_i ?_
    | refine wpN_e (n := 0) rfl ?_
    | refine wpN_e (n := 1) rfl ?_
    | refine wpN_e (n := 2) rfl ?_
    | refine wpN_e (n := 3) rfl ?_
    | refine wpN_e (n := 4) rfl ?_
    | refine wpN_e (n := 5) rfl ?_
    | refine wpN_e (n := 6) rfl ?_
    | refine wpN_e (n := 7) rfl ?_
    | refine wpN_e (n := 8) rfl ?_
    | refine wpN_e (n := 9) rfl ?_
    | refine wpN_e (n := 10) rfl ?_
    | refine wpN_e (n := 11) rfl ?_
    | refine wpN_e (n := 12) rfl ?_
    | refine wpN_e (n := 13) rfl ?_
    | refine wpN_e (n := -1) rfl ?_
    | refine wpN_e (n := 100) rfl ?_
    | refine wpN_e (n := 1099511627776) rfl ?_
    | refine loop_unroll' ?_
    | refine wpRegD_i rfl ?_
    | refine wpSide_i ⟨rfl, trivial⟩ ?_
    | refine wpSide_i trivial ?_
    | refine wpSide_i (by decide) ?_
    | refine wpSide_i (by simp) ?_
    | refine wpSide_i (by constructor <;> decide) ?_
    | refine wpIdx_i (n := 0) rfl rfl rfl ?_
    | refine wpIdx_i (n := 1) rfl rfl rfl ?_
    | refine wpIdx_i (n := 2) rfl rfl rfl ?_
    | refine wpIdx_i (n := 3) rfl rfl rfl ?_
    | refine wpIdx_i (n := 4) rfl rfl rfl ?_
    | refine wpIdx_i (n := 5) rfl rfl rfl ?_
    | refine wpIdx_i (n := 6) rfl rfl rfl ?_
    | refine wpIdx_i (n := 7) rfl rfl rfl ?_
    | refine wpIdx_i (n := 8) rfl rfl rfl ?_
    | refine wpIdx_i (n := 9) rfl rfl rfl ?_
    | refine wpIdx_i (n := 10) rfl rfl rfl ?_
    | refine wpIdx_i (n := 11) rfl rfl rfl ?_
    | refine wpIdx_i (n := 12) rfl rfl rfl ?_
    | refine wpIdx_i (n := 13) rfl rfl rfl ?_
    | refine wpCall_r al118c ?_
    | refine wpCall_r al120c ?_
    | (apply wpCall_r; apply pcall_intro func117 rfl rfl)
    | (apply wpCall_r; apply pcall_intro func118 rfl rfl)
    | (apply wpCall_r; apply pcall_intro func119 rfl rfl)
    | (apply wpCall_r; apply pcall_intro func121 rfl rfl)
    | refine ⟨⟨.ret _, _, numbers109 _ _ _ _ _ _ _ _ _ _, ?_⟩⟩
    | refine ⟨rfl, ?_⟩
    | refine ⟨_, rfl, ?_⟩
    | exact rfl)
end Go.Fw
namespace Go.Fw
open Go Go.Proofs.Tryz
variable {I : CallRel}
theorem oneL_app {xs ys : List (List Value)} (h : oneL xs) (h' : oneL ys) : oneL (xs ++ ys) := fun es hes => by
  rcases List.mem_append.1 hes with q | q
  · exact h es q
  · exact h' es q
theorem oneL_take {xs : List (List Value)} (h : oneL xs) (n : Nat) : oneL (xs.take n) := fun es hes => h es (List.mem_of_mem_take hes)
set_option maxRecDepth 100000 in
theorem insEnd534 (xs vs : List (List Value)) (hx : oneL xs) (hv : oneL vs) (hm : 0 < vs.length) (hn : xs.length + vs.length ≤ 1048576) :
    PCX I 534 [.one (.ref 0 xs.length), .int xs.length, .one (.ref 1 vs.length)] [.vec 9 xs false, .vec 9 vs false] (.ret (.one (.ref 2 (xs.length + vs.length)))) [.dead, .dead, .vec 9 (xs ++ vs) false] := by
  refine pcall_own func534 rfl rfl ?_
  conv => whnf
  refine wpSide_i rfl ⟨.inl ⟨fun sp h1 h2 => ?_⟩⟩
  refine wpSide_i ⟨by simp, by show (0:Int) ≤ (xs.length : Int); omega, Int.le_refl _, by simp only [mxOK]; simp; omega⟩ ?_
  conv => whnf
  refine wpSide_i rfl (wpLen_i ?_)
  conv => whnf
  refine wpB_f (by simp; intro h; subst h; simp at hm) ?_
  conv => whnf
  refine wpSide_i ⟨rfl, trivial⟩ ?_
  refine wpSide_i ⟨by simp, by omega⟩ ?_
  conv => whnf
  refine wpB_t (by simp) ?_
  conv => whnf
  refine wpSide_i ⟨rfl, trivial⟩ ?_
  refine wpSide_i ⟨rfl, by simp, hv⟩ ?_
  refine wpB_c (fun h => ?_) (fun h => ?_)
  · have h : vs.length ≤ sp.length := by simpa using h
    conv => whnf
    refine ⟨_, mkS [(6, .one (.win 0 0 (xs.length + vs.length)))] [(0, .buf 9 xs.length ((xs ++ sp).take xs.length ++ vs ++ (xs ++ sp).drop (xs.length + vs.length)))] 2 _ 2, rfl, le_mkS ⟨.inl ⟨rfl, rfl⟩, trivial⟩ ⟨.inl ⟨rfl, rfl⟩, trivial⟩ rfl rfl, ?_⟩
    have e1 : ((xs ++ sp).take xs.length ++ vs ++ (xs ++ sp).drop (xs.length + vs.length)).take (xs.length + vs.length) = xs ++ vs := by
      rw [List.take_append_of_le_length (by simp), List.take_of_length_le (by simp)]; simp
    refine ⟨⟨[(0, xs.length + vs.length)], _, rfl, by simp, ⟨.inl rfl, .inl rfl, trivial⟩, ⟨⟨9, xs ++ vs, ?_, rfl, by simp, by show _ ≤ _; omega, oneL_app hx hv⟩, trivial⟩, ⟨rfl, trivial⟩, rfl, by simp [tupOf]⟩⟩
    show some (9, ((xs ++ sp).take xs.length ++ vs ++ (xs ++ sp).drop (xs.length + vs.length)).take (xs.length + vs.length)) = some (9, xs ++ vs)
    rw [e1]
  · have e1 : (xs ++ sp).take xs.length = xs := by simp
    conv => whnf
    refine wpSide_i ⟨⟨(?_ : (_ + _) * 16 ≤ _), (?_ : _ + _ ≤ _)⟩, by rw [e1]; exact hx⟩ ?_
    · omega
    · omega
    conv => whnf
    refine ⟨_, mkS [(6, .one (.ref 2 (xs.length + vs.length)))] [(2, .vec 9 ((xs ++ sp).take xs.length ++ vs) false)] 3 _ 2, rfl, le_mkS ⟨.inl ⟨rfl, rfl⟩, trivial⟩ ⟨.inl ⟨rfl, rfl⟩, trivial⟩ rfl rfl, ?_⟩
    rw [e1]
    exact ⟨⟨[(2, xs.length + vs.length)], _, rfl, by simp, ⟨.inl rfl, .inl rfl, trivial⟩, ⟨⟨9, xs ++ vs, rfl, rfl, by simp, by show _ ≤ _; omega, trivial⟩, trivial⟩, ⟨⟨trivial, rfl⟩, trivial⟩, rfl, by simp [tupOf]⟩⟩
end Go.Fw
namespace Go.Fw
open Go Go.Proofs.Tryz
variable {I : CallRel}
set_option maxRecDepth 100000 in
theorem al456c : PCX I 456 [.one (.p (.sl [])), .str [99, 117, 112], .one (.fn 204 [] [])] [] (.ret (.one (.p (.sl [[vS [99, 117, 112]]])))) [] := by
  refine pcall_intro func456 rfl rfl ?_
  repeat' ((conv => whnf) <;> first
    | refine wpB_t rfl ?_
    | refine wpB_f rfl ?_
    | refine wpLen_i ?_
    | refine wpN_e (n := 0) rfl ?_
    | refine wpN_e (n := 1) rfl ?_
    | refine wpN_e (n := 2) rfl ?_
    | refine wpN_e (n := 3) rfl ?_
    | refine wpN_e (n := 4) rfl ?_
    | refine wpN_e (n := 5) rfl ?_
    | refine wpN_e (n := 6) rfl ?_
    | refine wpN_e (n := 7) rfl ?_
    | refine wpN_e (n := 8) rfl ?_
    | refine wpN_e (n := 9) rfl ?_
    | refine wpN_e (n := 10) rfl ?_
    | refine wpN_e (n := 11) rfl ?_
    | refine wpN_e (n := 12) rfl ?_
    | refine wpN_e (n := 13) rfl ?_
    | refine wpN_e (n := -1) rfl ?_
    | refine wpN_e (n := 100) rfl ?_
    | refine wpN_e (n := 1099511627776) rfl ?_
    | refine loop_unroll' ?_
    | refine wpRegD_i rfl ?_
    | refine wpSide_i ⟨rfl, trivial⟩ ?_
    | refine wpSide_i trivial ?_
    | refine wpSide_i (by decide) ?_
    | refine wpSide_i (by simp) ?_
    | refine wpSide_i (by constructor <;> decide) ?_
    | refine wpIdx_i (n := 0) rfl rfl rfl ?_
    | refine wpIdx_i (n := 1) rfl rfl rfl ?_
    | refine wpIdx_i (n := 2) rfl rfl rfl ?_
    | refine wpIdx_i (n := 3) rfl rfl rfl ?_
    | refine wpIdx_i (n := 4) rfl rfl rfl ?_
    | refine wpIdx_i (n := 5) rfl rfl rfl ?_
    | refine wpIdx_i (n := 6) rfl rfl rfl ?_
    | refine wpIdx_i (n := 7) rfl rfl rfl ?_
    | refine wpIdx_i (n := 8) rfl rfl rfl ?_
    | refine wpIdx_i (n := 9) rfl rfl rfl ?_
    | refine wpIdx_i (n := 10) rfl rfl rfl ?_
    | refine wpIdx_i (n := 11) rfl rfl rfl ?_
    | refine wpIdx_i (n := 12) rfl rfl rfl ?_
    | refine wpIdx_i (n := 13) rfl rfl rfl ?_
    | (apply wpCall_r; apply pcall_intro func533 rfl rfl)
    | refine ⟨⟨.ret _, _, clone316 _ (by simp) (by simp), ?_⟩⟩
    | refine ⟨⟨.ret _, _, clone188 _ (by simp) (by simp), ?_⟩⟩
    | refine ⟨⟨.ret _, _, clone285 _ (by simp) (by simp), ?_⟩⟩
    | refine ⟨⟨.ret _, _, clone195 _ (by simp) (by simp), ?_⟩⟩
    | refine ⟨⟨.ret _, _, clone460 _ (by simp) (by simp), ?_⟩⟩
    | refine ⟨⟨.ret _, _, clone360 _ (by simp) (by simp), ?_⟩⟩
    | refine ⟨⟨.ret _, _, insEnd534 [] [[vS [99, 117, 112]]] (by intro es hes; cases hes) (by intro es hes u hu; simp at hes; subst hes; simp at hu; subst hu; rfl) (by decide) (by decide), ?_⟩⟩
    | refine ⟨rfl, ?_⟩
    | refine ⟨_, rfl, ?_⟩
    | exact rfl)
set_option maxRecDepth 100000 in
theorem al346c : PCX I 346 [.w (.agg [.p (.sl []), .p (.sl [])]), .str [99, 117, 112]] [] (.ret (.tup [.agg [.p (.sl [[vS [99, 117, 112]]]), .p (.sl [])], .one (.p (.v (vI 0)))])) [] := by
  refine pcall_intro func346 rfl rfl ?_
  repeat' ((conv => whnf) <;> first
    | refine wpB_t rfl ?_
    | refine wpB_f rfl ?_
    | refine wpLen_i ?_
    | refine wpN_e (n := 0) rfl ?_
    | refine wpN_e (n := 1) rfl ?_
    | refine wpN_e (n := 2) rfl ?_
    | refine wpN_e (n := 3) rfl ?_
    | refine wpN_e (n := 4) rfl ?_
    | refine wpN_e (n := 5) rfl ?_
    | refine wpN_e (n := 6) rfl ?_
    | refine wpN_e (n := 7) rfl ?_
    | refine wpN_e (n := 8) rfl ?_
    | refine wpN_e (n := 9) rfl ?_
    | refine wpN_e (n := 10) rfl ?_
    | refine wpN_e (n := 11) rfl ?_
    | refine wpN_e (n := 12) rfl ?_
    | refine wpN_e (n := 13) rfl ?_
    | refine wpN_e (n := -1) rfl ?_
    | refine wpN_e (n := 100) rfl ?_
    | refine wpN_e (n := 1099511627776) rfl ?_
    | refine loop_unroll' ?_
    | refine wpRegD_i rfl ?_
    | refine wpSide_i ⟨rfl, trivial⟩ ?_
    | refine wpSide_i trivial ?_
    | refine wpSide_i (by decide) ?_
    | refine wpSide_i (by simp) ?_
    | refine wpSide_i (by constructor <;> decide) ?_
    | refine wpIdx_i (n := 0) rfl rfl rfl ?_
    | refine wpIdx_i (n := 1) rfl rfl rfl ?_
    | refine wpIdx_i (n := 2) rfl rfl rfl ?_
    | refine wpIdx_i (n := 3) rfl rfl rfl ?_
    | refine wpIdx_i (n := 4) rfl rfl rfl ?_
    | refine wpIdx_i (n := 5) rfl rfl rfl ?_
    | refine wpIdx_i (n := 6) rfl rfl rfl ?_
    | refine wpIdx_i (n := 7) rfl rfl rfl ?_
    | refine wpIdx_i (n := 8) rfl rfl rfl ?_
    | refine wpIdx_i (n := 9) rfl rfl rfl ?_
    | refine wpIdx_i (n := 10) rfl rfl rfl ?_
    | refine wpIdx_i (n := 11) rfl rfl rfl ?_
    | refine wpIdx_i (n := 12) rfl rfl rfl ?_
    | refine wpIdx_i (n := 13) rfl rfl rfl ?_
    | refine wpCall_r al94e ?_
    | refine wpCall_r al456c ?_
    | (apply wpCall_r; apply pcall_intro func100 rfl rfl)
    | (apply wpCall_r; apply pcall_intro func202 rfl rfl)
    | (apply wpCall_r; apply pcall_intro func204 rfl rfl)
    | (apply wpCall_r; apply pcall_intro func214 rfl rfl)
    | (apply wpCall_r; apply pcall_intro func368 rfl rfl)
    | (apply wpCall_r; apply pcall_intro func369 rfl rfl)
    | (apply wpCall_r; apply pcall_intro func370 rfl rfl)
    | (apply wpCall_r; apply pcall_intro func481 rfl rfl)
    | (apply wpCall_r; apply pcall_intro func482 rfl rfl)
    | refine ⟨rfl, ?_⟩
    | refine ⟨_, rfl, ?_⟩
    | exact rfl)
end Go.Fw
namespace Go.Fw
open Go Go.Proofs.Tryz
variable {I : CallRel}
set_option maxRecDepth 100000 in
theorem al27c : PCX I 27 [.w (.agg [.p (.sl [[vS [99, 117, 112]]]), .p (.sl []), .p (.sl []), .p (.sl []), .p (.sl []), .p (.sl []), .p (.v (vI 0)), .p (.sl []), .p (.v (vI 0)), .p (.v (vI 0))])] [] (.ret (AV.bool true)) [] := by
  refine pcall_intro func27 rfl rfl ?_
  repeat' ((conv => whnf) <;> first
    | refine wpB_t rfl ?_
    | refine wpB_f rfl ?_
    | refine wpLen_i ?_
    | refine wpN_e (n := 0) rfl ?_
    | refine wpN_e (n := 1) rfl ?_
    | refine wpN_e (n := 2) rfl ?_
    | refine wpN_e (n := 3) rfl ?_
    | refine wpN_e (n := 4) rfl ?_
    | refine wpN_e (n := 5) rfl ?_
    | refine wpN_e (n := 6) rfl ?_
    | refine wpN_e (n := 7) rfl ?_
    | refine wpN_e (n := 8) rfl ?_
    | refine wpN_e (n := 9) rfl ?_
    | refine wpN_e (n := 10) rfl ?_
    | refine wpN_e (n := 11) rfl ?_
    | refine wpN_e (n := 12) rfl ?_
    | refine wpN_e (n := 13) rfl ?_
    | refine wpN_e (n := -1) rfl ?_
    | refine wpN_e (n := 100) rfl ?_
    | refine wpN_e (n := 1099511627776) rfl ?_
    | refine loop_unroll' ?_
    | refine wpRegD_i rfl ?_
    | refine wpSide_i ⟨rfl, trivial⟩ ?_
    | refine wpSide_i trivial ?_
    | refine wpSide_i (by decide) ?_
    | refine wpSide_i (by simp) ?_
    | refine wpSide_i (by constructor <;> decide) ?_
    | refine wpIdx_i (n := 0) rfl rfl rfl ?_
    | refine wpIdx_i (n := 1) rfl rfl rfl ?_
    | refine wpIdx_i (n := 2) rfl rfl rfl ?_
    | refine wpIdx_i (n := 3) rfl rfl rfl ?_
    | refine wpIdx_i (n := 4) rfl rfl rfl ?_
    | refine wpIdx_i (n := 5) rfl rfl rfl ?_
    | refine wpIdx_i (n := 6) rfl rfl rfl ?_
    | refine wpIdx_i (n := 7) rfl rfl rfl ?_
    | refine wpIdx_i (n := 8) rfl rfl rfl ?_
    | refine wpIdx_i (n := 9) rfl rfl rfl ?_
    | refine wpIdx_i (n := 10) rfl rfl rfl ?_
    | refine wpIdx_i (n := 11) rfl rfl rfl ?_
    | refine wpIdx_i (n := 12) rfl rfl rfl ?_
    | refine wpIdx_i (n := 13) rfl rfl rfl ?_
    | refine wpCall_r al94e ?_
    | refine wpCall_r al95e ?_
    | refine wpCall_r al96e ?_
    | refine wpCall_r al97e ?_
    | refine wpCall_r al77e ?_
    | refine wpCall_r al78e ?_
    | refine wpCall_r al94c ?_
    | (apply wpCall_r; apply pcall_intro func47 rfl rfl)
    | (apply wpCall_r; apply pcall_intro func76 rfl rfl)
    | (apply wpCall_r; apply pcall_intro func79 rfl rfl)
    | (apply wpCall_r; apply pcall_intro func98 rfl rfl)
    | (apply wpCall_r; apply pcall_intro func99 rfl rfl)
    | (apply wpCall_r; apply pcall_intro func100 rfl rfl)
    | (apply wpCall_r; apply pcall_intro func101 rfl rfl)
    | (apply wpCall_r; apply pcall_intro func102 rfl rfl)
    | (apply wpCall_r; apply pcall_intro func103 rfl rfl)
    | (apply wpCall_r; apply pcall_intro func104 rfl rfl)
    | (apply wpCall_r; apply pcall_intro func105 rfl rfl)
    | (apply wpCall_r; apply pcall_intro func130 rfl rfl)
    | (apply wpCall_r; apply pcall_intro func168 rfl rfl)
    | (apply wpCall_r; apply pcall_intro func172 rfl rfl)
    | (apply wpCall_r; apply pcall_intro func212 rfl rfl)
    | (apply wpCall_r; apply pcall_intro func213 rfl rfl)
    | (apply wpCall_r; apply pcall_intro func214 rfl rfl)
    | (apply wpCall_r; apply pcall_intro func215 rfl rfl)
    | (apply wpCall_r; apply pcall_intro func247 rfl rfl)
    | (apply wpCall_r; apply pcall_intro func248 rfl rfl)
    | (apply wpCall_r; apply pcall_intro func249 rfl rfl)
    | (apply wpCall_r; apply pcall_intro func250 rfl rfl)
    | (apply wpCall_r; apply pcall_intro func251 rfl rfl)
    | (apply wpCall_r; apply pcall_intro func252 rfl rfl)
    | (apply wpCall_r; apply pcall_intro func314 rfl rfl)
    | (apply wpCall_r; apply pcall_intro func315 rfl rfl)
    | (apply wpCall_r; apply pcall_intro func363 rfl rfl)
    | (apply wpCall_r; apply pcall_intro func375 rfl rfl)
    | (apply wpCall_r; apply pcall_intro func376 rfl rfl)
    | (apply wpCall_r; apply pcall_intro func384 rfl rfl)
    | (apply wpCall_r; apply pcall_intro func385 rfl rfl)
    | (apply wpCall_r; apply pcall_intro func386 rfl rfl)
    | (apply wpCall_r; apply pcall_intro func387 rfl rfl)
    | (apply wpCall_r; apply pcall_intro func388 rfl rfl)
    | (apply wpCall_r; apply pcall_intro func389 rfl rfl)
    | (apply wpCall_r; apply pcall_intro func390 rfl rfl)
    | (apply wpCall_r; apply pcall_intro func391 rfl rfl)
    | (apply wpCall_r; apply pcall_intro func392 rfl rfl)
    | (apply wpCall_r; apply pcall_intro func447 rfl rfl)
    | (apply wpCall_r; apply pcall_intro func488 rfl rfl)
    | (apply wpCall_r; apply pcall_intro func489 rfl rfl)
    | (apply wpCall_r; apply pcall_intro func490 rfl rfl)
    | (apply wpCall_r; apply pcall_intro func564 rfl rfl)
    | (apply wpCall_r; apply pcall_intro func565 rfl rfl)
    | refine ⟨rfl, ?_⟩
    | refine ⟨_, rfl, ?_⟩
    | exact rfl)
set_option maxRecDepth 100000 in
theorem al75c : PCX I 75 [.one (.p (.sl [])), .str [99, 117, 112]] [] (.ret (.tup [.one (.p (.sl [])), .one (.p (.v (vI 0)))])) [] := by
  refine pcall_intro func75 rfl rfl ?_
  repeat' ((conv => whnf) <;> first
    | refine wpB_t rfl ?_
    | refine wpB_f rfl ?_
    | refine wpLen_i ?_
    | refine wpN_e (n := 0) rfl ?_
    | refine wpN_e (n := 1) rfl ?_
    | refine wpN_e (n := 2) rfl ?_
    | refine wpN_e (n := 3) rfl ?_
    | refine wpN_e (n := 4) rfl ?_
    | refine wpN_e (n := 5) rfl ?_
    | refine wpN_e (n := 6) rfl ?_
    | refine wpN_e (n := 7) rfl ?_
    | refine wpN_e (n := 8) rfl ?_
    | refine wpN_e (n := 9) rfl ?_
    | refine wpN_e (n := 10) rfl ?_
    | refine wpN_e (n := 11) rfl ?_
    | refine wpN_e (n := 12) rfl ?_
    | refine wpN_e (n := 13) rfl ?_
    | refine wpN_e (n := -1) rfl ?_
    | refine wpN_e (n := 100) rfl ?_
    | refine wpN_e (n := 1099511627776) rfl ?_
    | refine loop_unroll' ?_
    | refine wpRegD_i rfl ?_
    | refine wpSide_i ⟨rfl, trivial⟩ ?_
    | refine wpSide_i trivial ?_
    | refine wpSide_i (by decide) ?_
    | refine wpSide_i (by simp) ?_
    | refine wpSide_i (by constructor <;> decide) ?_
    | refine wpIdx_i (n := 0) rfl rfl rfl ?_
    | refine wpIdx_i (n := 1) rfl rfl rfl ?_
    | refine wpIdx_i (n := 2) rfl rfl rfl ?_
    | refine wpIdx_i (n := 3) rfl rfl rfl ?_
    | refine wpIdx_i (n := 4) rfl rfl rfl ?_
    | refine wpIdx_i (n := 5) rfl rfl rfl ?_
    | refine wpIdx_i (n := 6) rfl rfl rfl ?_
    | refine wpIdx_i (n := 7) rfl rfl rfl ?_
    | refine wpIdx_i (n := 8) rfl rfl rfl ?_
    | refine wpIdx_i (n := 9) rfl rfl rfl ?_
    | refine wpIdx_i (n := 10) rfl rfl rfl ?_
    | refine wpIdx_i (n := 11) rfl rfl rfl ?_
    | refine wpIdx_i (n := 12) rfl rfl rfl ?_
    | refine wpIdx_i (n := 13) rfl rfl rfl ?_
    | refine wpCall_r al94e ?_
    | refine wpCall_r al95e ?_
    | refine wpCall_r al96e ?_
    | refine wpCall_r al97e ?_
    | refine wpCall_r al77e ?_
    | refine wpCall_r al78e ?_
    | refine wpCall_r al94c ?_
    | (apply wpCall_r; apply pcall_intro func76 rfl rfl)
    | (apply wpCall_r; apply pcall_intro func167 rfl rfl)
    | (apply wpCall_r; apply pcall_intro func168 rfl rfl)
    | (apply wpCall_r; apply pcall_intro func204 rfl rfl)
    | (apply wpCall_r; apply pcall_intro func248 rfl rfl)
    | (apply wpCall_r; apply pcall_intro func311 rfl rfl)
    | (apply wpCall_r; apply pcall_intro func312 rfl rfl)
    | (apply wpCall_r; apply pcall_intro func313 rfl rfl)
    | (apply wpCall_r; apply pcall_intro func314 rfl rfl)
    | (apply wpCall_r; apply pcall_intro func315 rfl rfl)
    | (apply wpCall_r; apply pcall_intro func370 rfl rfl)
    | (apply wpCall_r; apply pcall_intro func384 rfl rfl)
    | (apply wpCall_r; apply pcall_intro func444 rfl rfl)
    | (apply wpCall_r; apply pcall_intro func445 rfl rfl)
    | (apply wpCall_r; apply pcall_intro func446 rfl rfl)
    | (apply wpCall_r; apply pcall_intro func447 rfl rfl)
    | (apply wpCall_r; apply pcall_intro func482 rfl rfl)
    | (apply wpCall_r; apply pcall_intro func488 rfl rfl)
    | (apply wpCall_r; apply pcall_intro func489 rfl rfl)
    | (apply wpCall_r; apply pcall_intro func490 rfl rfl)
    | (apply wpCall_r; apply pcall_intro func521 rfl rfl)
    | (apply wpCall_r; apply pcall_intro func564 rfl rfl)
    | (apply wpCall_r; apply pcall_intro func565 rfl rfl)
    | refine ⟨rfl, ?_⟩
    | refine ⟨_, rfl, ?_⟩
    | exact rfl)
set_option maxRecDepth 100000 in
theorem al83c : PCX I 83 [.w (.agg [.p (.sl [[vS [99, 117, 112]]]), .p (.sl []), .p (.sl []), .p (.sl []), .p (.sl []), .p (.sl []), .p (.v (vI 0)), .p (.sl []), .p (.v (vI 0)), .p (.v (vI 0))])] [] (.ret (.tup [.agg [.p (.sl [[vS [99, 117, 112]]]), .p (.sl []), .p (.sl []), .p (.sl []), .p (.sl []), .p (.sl []), .p (.v (vI 0)), .p (.sl []), .p (.v (vI 0)), .p (.v (vI 0))], .one (.p (.sl [])), .one (.p (.v (vI 0)))])) [] := by
  refine pcall_intro func83 rfl rfl ?_
  repeat' ((conv => whnf) <;> first
    | refine wpB_t rfl ?_
    | refine wpB_f rfl ?_
    | refine wpLen_i ?_
    | refine wpN_e (n := 0) rfl ?_
    | refine wpN_e (n := 1) rfl ?_
    | refine wpN_e (n := 2) rfl ?_
    | refine wpN_e (n := 3) rfl ?_
    | refine wpN_e (n := 4) rfl ?_
    | refine wpN_e (n := 5) rfl ?_
    | refine wpN_e (n := 6) rfl ?_
    | refine wpN_e (n := 7) rfl ?_
    | refine wpN_e (n := 8) rfl ?_
    | refine wpN_e (n := 9) rfl ?_
    | refine wpN_e (n := 10) rfl ?_
    | refine wpN_e (n := 11) rfl ?_
    | refine wpN_e (n := 12) rfl ?_
    | refine wpN_e (n := 13) rfl ?_
    | refine wpN_e (n := -1) rfl ?_
    | refine wpN_e (n := 100) rfl ?_
    | refine wpN_e (n := 1099511627776) rfl ?_
    | refine loop_unroll' ?_
    | refine wpRegD_i rfl ?_
    | refine wpSide_i ⟨rfl, trivial⟩ ?_
    | refine wpSide_i trivial ?_
    | refine wpSide_i (by decide) ?_
    | refine wpSide_i (by simp) ?_
    | refine wpSide_i (by constructor <;> decide) ?_
    | refine wpIdx_i (n := 0) rfl rfl rfl ?_
    | refine wpIdx_i (n := 1) rfl rfl rfl ?_
    | refine wpIdx_i (n := 2) rfl rfl rfl ?_
    | refine wpIdx_i (n := 3) rfl rfl rfl ?_
    | refine wpIdx_i (n := 4) rfl rfl rfl ?_
    | refine wpIdx_i (n := 5) rfl rfl rfl ?_
    | refine wpIdx_i (n := 6) rfl rfl rfl ?_
    | refine wpIdx_i (n := 7) rfl rfl rfl ?_
    | refine wpIdx_i (n := 8) rfl rfl rfl ?_
    | refine wpIdx_i (n := 9) rfl rfl rfl ?_
    | refine wpIdx_i (n := 10) rfl rfl rfl ?_
    | refine wpIdx_i (n := 11) rfl rfl rfl ?_
    | refine wpIdx_i (n := 12) rfl rfl rfl ?_
    | refine wpIdx_i (n := 13) rfl rfl rfl ?_
    | refine wpCall_r al94e ?_
    | refine wpCall_r al95e ?_
    | refine wpCall_r al96e ?_
    | refine wpCall_r al97e ?_
    | refine wpCall_r al77e ?_
    | refine wpCall_r al78e ?_
    | refine wpCall_r al94c ?_
    | refine wpCall_r al27c ?_
    | refine wpCall_r al75c ?_
    | (apply wpCall_r; apply pcall_intro func76 rfl rfl)
    | (apply wpCall_r; apply pcall_intro func94 rfl rfl)
    | (apply wpCall_r; apply pcall_intro func95 rfl rfl)
    | (apply wpCall_r; apply pcall_intro func97 rfl rfl)
    | (apply wpCall_r; apply pcall_intro func100 rfl rfl)
    | (apply wpCall_r; apply pcall_intro func106 rfl rfl)
    | (apply wpCall_r; apply pcall_intro func107 rfl rfl)
    | (apply wpCall_r; apply pcall_intro func108 rfl rfl)
    | (apply wpCall_r; apply pcall_intro func130 rfl rfl)
    | (apply wpCall_r; apply pcall_intro func167 rfl rfl)
    | (apply wpCall_r; apply pcall_intro func168 rfl rfl)
    | (apply wpCall_r; apply pcall_intro func189 rfl rfl)
    | (apply wpCall_r; apply pcall_intro func190 rfl rfl)
    | (apply wpCall_r; apply pcall_intro func191 rfl rfl)
    | (apply wpCall_r; apply pcall_intro func192 rfl rfl)
    | (apply wpCall_r; apply pcall_intro func194 rfl rfl)
    | (apply wpCall_r; apply pcall_intro func197 rfl rfl)
    | (apply wpCall_r; apply pcall_intro func198 rfl rfl)
    | (apply wpCall_r; apply pcall_intro func199 rfl rfl)
    | (apply wpCall_r; apply pcall_intro func200 rfl rfl)
    | (apply wpCall_r; apply pcall_intro func201 rfl rfl)
    | (apply wpCall_r; apply pcall_intro func202 rfl rfl)
    | (apply wpCall_r; apply pcall_intro func203 rfl rfl)
    | (apply wpCall_r; apply pcall_intro func204 rfl rfl)
    | (apply wpCall_r; apply pcall_intro func205 rfl rfl)
    | (apply wpCall_r; apply pcall_intro func206 rfl rfl)
    | (apply wpCall_r; apply pcall_intro func207 rfl rfl)
    | (apply wpCall_r; apply pcall_intro func210 rfl rfl)
    | (apply wpCall_r; apply pcall_intro func211 rfl rfl)
    | (apply wpCall_r; apply pcall_intro func212 rfl rfl)
    | (apply wpCall_r; apply pcall_intro func213 rfl rfl)
    | (apply wpCall_r; apply pcall_intro func214 rfl rfl)
    | (apply wpCall_r; apply pcall_intro func216 rfl rfl)
    | (apply wpCall_r; apply pcall_intro func217 rfl rfl)
    | (apply wpCall_r; apply pcall_intro func218 rfl rfl)
    | (apply wpCall_r; apply pcall_intro func219 rfl rfl)
    | (apply wpCall_r; apply pcall_intro func220 rfl rfl)
    | (apply wpCall_r; apply pcall_intro func221 rfl rfl)
    | (apply wpCall_r; apply pcall_intro func222 rfl rfl)
    | (apply wpCall_r; apply pcall_intro func223 rfl rfl)
    | (apply wpCall_r; apply pcall_intro func247 rfl rfl)
    | (apply wpCall_r; apply pcall_intro func248 rfl rfl)
    | (apply wpCall_r; apply pcall_intro func249 rfl rfl)
    | (apply wpCall_r; apply pcall_intro func250 rfl rfl)
    | (apply wpCall_r; apply pcall_intro func251 rfl rfl)
    | (apply wpCall_r; apply pcall_intro func252 rfl rfl)
    | (apply wpCall_r; apply pcall_intro func311 rfl rfl)
    | (apply wpCall_r; apply pcall_intro func312 rfl rfl)
    | (apply wpCall_r; apply pcall_intro func313 rfl rfl)
    | (apply wpCall_r; apply pcall_intro func314 rfl rfl)
    | (apply wpCall_r; apply pcall_intro func315 rfl rfl)
    | (apply wpCall_r; apply pcall_intro func316 rfl rfl)
    | (apply wpCall_r; apply pcall_intro func358 rfl rfl)
    | (apply wpCall_r; apply pcall_intro func359 rfl rfl)
    | (apply wpCall_r; apply pcall_intro func360 rfl rfl)
    | (apply wpCall_r; apply pcall_intro func361 rfl rfl)
    | (apply wpCall_r; apply pcall_intro func362 rfl rfl)
    | (apply wpCall_r; apply pcall_intro func363 rfl rfl)
    | (apply wpCall_r; apply pcall_intro func365 rfl rfl)
    | (apply wpCall_r; apply pcall_intro func366 rfl rfl)
    | (apply wpCall_r; apply pcall_intro func367 rfl rfl)
    | (apply wpCall_r; apply pcall_intro func368 rfl rfl)
    | (apply wpCall_r; apply pcall_intro func369 rfl rfl)
    | (apply wpCall_r; apply pcall_intro func370 rfl rfl)
    | (apply wpCall_r; apply pcall_intro func371 rfl rfl)
    | (apply wpCall_r; apply pcall_intro func372 rfl rfl)
    | (apply wpCall_r; apply pcall_intro func373 rfl rfl)
    | (apply wpCall_r; apply pcall_intro func374 rfl rfl)
    | (apply wpCall_r; apply pcall_intro func375 rfl rfl)
    | (apply wpCall_r; apply pcall_intro func376 rfl rfl)
    | (apply wpCall_r; apply pcall_intro func377 rfl rfl)
    | (apply wpCall_r; apply pcall_intro func384 rfl rfl)
    | (apply wpCall_r; apply pcall_intro func385 rfl rfl)
    | (apply wpCall_r; apply pcall_intro func386 rfl rfl)
    | (apply wpCall_r; apply pcall_intro func387 rfl rfl)
    | (apply wpCall_r; apply pcall_intro func388 rfl rfl)
    | (apply wpCall_r; apply pcall_intro func389 rfl rfl)
    | (apply wpCall_r; apply pcall_intro func390 rfl rfl)
    | (apply wpCall_r; apply pcall_intro func391 rfl rfl)
    | (apply wpCall_r; apply pcall_intro func392 rfl rfl)
    | (apply wpCall_r; apply pcall_intro func444 rfl rfl)
    | (apply wpCall_r; apply pcall_intro func445 rfl rfl)
    | (apply wpCall_r; apply pcall_intro func446 rfl rfl)
    | (apply wpCall_r; apply pcall_intro func447 rfl rfl)
    | (apply wpCall_r; apply pcall_intro func459 rfl rfl)
    | (apply wpCall_r; apply pcall_intro func460 rfl rfl)
    | (apply wpCall_r; apply pcall_intro func462 rfl rfl)
    | (apply wpCall_r; apply pcall_intro func478 rfl rfl)
    | (apply wpCall_r; apply pcall_intro func479 rfl rfl)
    | (apply wpCall_r; apply pcall_intro func480 rfl rfl)
    | (apply wpCall_r; apply pcall_intro func481 rfl rfl)
    | (apply wpCall_r; apply pcall_intro func482 rfl rfl)
    | (apply wpCall_r; apply pcall_intro func483 rfl rfl)
    | (apply wpCall_r; apply pcall_intro func488 rfl rfl)
    | (apply wpCall_r; apply pcall_intro func489 rfl rfl)
    | (apply wpCall_r; apply pcall_intro func490 rfl rfl)
    | (apply wpCall_r; apply pcall_intro func521 rfl rfl)
    | (apply wpCall_r; apply pcall_intro func537 rfl rfl)
    | (apply wpCall_r; apply pcall_intro func538 rfl rfl)
    | (apply wpCall_r; apply pcall_intro func560 rfl rfl)
    | (apply wpCall_r; apply pcall_intro func561 rfl rfl)
    | (apply wpCall_r; apply pcall_intro func562 rfl rfl)
    | (apply wpCall_r; apply pcall_intro func564 rfl rfl)
    | (apply wpCall_r; apply pcall_intro func565 rfl rfl)
    | (apply wpCall_r; apply pcall_intro func594 rfl rfl)
    | refine ⟨⟨.ret _, _, clone316 _ (by simp) (by simp), ?_⟩⟩
    | refine ⟨⟨.ret _, _, clone188 _ (by simp) (by simp), ?_⟩⟩
    | refine ⟨⟨.ret _, _, clone285 _ (by simp) (by simp), ?_⟩⟩
    | refine ⟨⟨.ret _, _, clone195 _ (by simp) (by simp), ?_⟩⟩
    | refine ⟨⟨.ret _, _, clone460 _ (by simp) (by simp), ?_⟩⟩
    | refine ⟨⟨.ret _, _, clone360 _ (by simp) (by simp), ?_⟩⟩
    | refine ⟨rfl, ?_⟩
    | refine ⟨_, rfl, ?_⟩
    | exact rfl)
set_option maxRecDepth 100000 in
theorem al84c : PCX I 84 [.w (.agg [.p (.sl [[vS [99, 117, 112]]]), .p (.sl []), .p (.sl []), .p (.sl []), .p (.sl []), .p (.sl []), .p (.v (vI 0)), .p (.sl []), .p (.v (vI 0)), .p (.v (vI 0))]), .int 100] [] (.ret (.tup [.agg [.p (.sl [[vS [99, 117, 112]]]), .p (.sl []), .p (.sl []), .p (.sl []), .p (.sl []), .p (.sl []), .p (.v (vI 0)), .p (.sl []), .p (.v (vI 0)), .p (.v (vI 0))], .one (.p (.sl [])), .one (.p (.v (vI 0)))])) [] := by
  refine pcall_intro func84 rfl rfl ?_
  repeat' ((conv => whnf) <;> first
    | refine wpB_t rfl ?_
    | refine wpB_f rfl ?_
    | refine wpLen_i ?_
    | refine wpN_e (n := 0) rfl ?_
    | refine wpN_e (n := 1) rfl ?_
    | refine wpN_e (n := 2) rfl ?_
    | refine wpN_e (n := 3) rfl ?_
    | refine wpN_e (n := 4) rfl ?_
    | refine wpN_e (n := 5) rfl ?_
    | refine wpN_e (n := 6) rfl ?_
    | refine wpN_e (n := 7) rfl ?_
    | refine wpN_e (n := 8) rfl ?_
    | refine wpN_e (n := 9) rfl ?_
    | refine wpN_e (n := 10) rfl ?_
    | refine wpN_e (n := 11) rfl ?_
    | refine wpN_e (n := 12) rfl ?_
    | refine wpN_e (n := 13) rfl ?_
    | refine wpN_e (n := -1) rfl ?_
    | refine wpN_e (n := 100) rfl ?_
    | refine wpN_e (n := 1099511627776) rfl ?_
    | refine loop_unroll' ?_
    | refine wpRegD_i rfl ?_
    | refine wpSide_i ⟨rfl, trivial⟩ ?_
    | refine wpSide_i trivial ?_
    | refine wpSide_i (by decide) ?_
    | refine wpSide_i (by simp) ?_
    | refine wpSide_i (by constructor <;> decide) ?_
    | refine wpIdx_i (n := 0) rfl rfl rfl ?_
    | refine wpIdx_i (n := 1) rfl rfl rfl ?_
    | refine wpIdx_i (n := 2) rfl rfl rfl ?_
    | refine wpIdx_i (n := 3) rfl rfl rfl ?_
    | refine wpIdx_i (n := 4) rfl rfl rfl ?_
    | refine wpIdx_i (n := 5) rfl rfl rfl ?_
    | refine wpIdx_i (n := 6) rfl rfl rfl ?_
    | refine wpIdx_i (n := 7) rfl rfl rfl ?_
    | refine wpIdx_i (n := 8) rfl rfl rfl ?_
    | refine wpIdx_i (n := 9) rfl rfl rfl ?_
    | refine wpIdx_i (n := 10) rfl rfl rfl ?_
    | refine wpIdx_i (n := 11) rfl rfl rfl ?_
    | refine wpIdx_i (n := 12) rfl rfl rfl ?_
    | refine wpIdx_i (n := 13) rfl rfl rfl ?_
    | refine wpCall_r al94e ?_
    | refine wpCall_r al95e ?_
    | refine wpCall_r al96e ?_
    | refine wpCall_r al97e ?_
    | refine wpCall_r al77e ?_
    | refine wpCall_r al78e ?_
    | refine wpCall_r al94c ?_
    | refine wpCall_r al27c ?_
    | (apply wpCall_r; apply pcall_intro func94 rfl rfl)
    | (apply wpCall_r; apply pcall_intro func97 rfl rfl)
    | (apply wpCall_r; apply pcall_intro func100 rfl rfl)
    | (apply wpCall_r; apply pcall_intro func191 rfl rfl)
    | (apply wpCall_r; apply pcall_intro func192 rfl rfl)
    | (apply wpCall_r; apply pcall_intro func193 rfl rfl)
    | (apply wpCall_r; apply pcall_intro func194 rfl rfl)
    | (apply wpCall_r; apply pcall_intro func197 rfl rfl)
    | (apply wpCall_r; apply pcall_intro func198 rfl rfl)
    | (apply wpCall_r; apply pcall_intro func199 rfl rfl)
    | (apply wpCall_r; apply pcall_intro func200 rfl rfl)
    | (apply wpCall_r; apply pcall_intro func201 rfl rfl)
    | (apply wpCall_r; apply pcall_intro func202 rfl rfl)
    | (apply wpCall_r; apply pcall_intro func203 rfl rfl)
    | (apply wpCall_r; apply pcall_intro func204 rfl rfl)
    | (apply wpCall_r; apply pcall_intro func205 rfl rfl)
    | (apply wpCall_r; apply pcall_intro func206 rfl rfl)
    | (apply wpCall_r; apply pcall_intro func210 rfl rfl)
    | (apply wpCall_r; apply pcall_intro func211 rfl rfl)
    | (apply wpCall_r; apply pcall_intro func212 rfl rfl)
    | (apply wpCall_r; apply pcall_intro func213 rfl rfl)
    | (apply wpCall_r; apply pcall_intro func214 rfl rfl)
    | (apply wpCall_r; apply pcall_intro func251 rfl rfl)
    | (apply wpCall_r; apply pcall_intro func314 rfl rfl)
    | (apply wpCall_r; apply pcall_intro func315 rfl rfl)
    | (apply wpCall_r; apply pcall_intro func359 rfl rfl)
    | (apply wpCall_r; apply pcall_intro func360 rfl rfl)
    | (apply wpCall_r; apply pcall_intro func361 rfl rfl)
    | (apply wpCall_r; apply pcall_intro func362 rfl rfl)
    | (apply wpCall_r; apply pcall_intro func363 rfl rfl)
    | (apply wpCall_r; apply pcall_intro func365 rfl rfl)
    | (apply wpCall_r; apply pcall_intro func366 rfl rfl)
    | (apply wpCall_r; apply pcall_intro func367 rfl rfl)
    | (apply wpCall_r; apply pcall_intro func368 rfl rfl)
    | (apply wpCall_r; apply pcall_intro func369 rfl rfl)
    | (apply wpCall_r; apply pcall_intro func370 rfl rfl)
    | (apply wpCall_r; apply pcall_intro func375 rfl rfl)
    | (apply wpCall_r; apply pcall_intro func376 rfl rfl)
    | (apply wpCall_r; apply pcall_intro func447 rfl rfl)
    | (apply wpCall_r; apply pcall_intro func481 rfl rfl)
    | (apply wpCall_r; apply pcall_intro func482 rfl rfl)
    | refine ⟨⟨.ret _, _, clone316 _ (by simp) (by simp), ?_⟩⟩
    | refine ⟨⟨.ret _, _, clone188 _ (by simp) (by simp), ?_⟩⟩
    | refine ⟨⟨.ret _, _, clone285 _ (by simp) (by simp), ?_⟩⟩
    | refine ⟨⟨.ret _, _, clone195 _ (by simp) (by simp), ?_⟩⟩
    | refine ⟨⟨.ret _, _, clone460 _ (by simp) (by simp), ?_⟩⟩
    | refine ⟨⟨.ret _, _, clone360 _ (by simp) (by simp), ?_⟩⟩
    | refine ⟨rfl, ?_⟩
    | refine ⟨_, rfl, ?_⟩
    | exact rfl)
end Go.Fw
namespace Go.Fw
open Go Go.Proofs.Tryz
variable {I : CallRel}
set_option maxRecDepth 100000 in
theorem al364e : PCX I 364 [.junk, .one (.pv [.sl []] 0), .one (.pv [.v (vI 0)] 0)] [] (.ret (.tup [])) [] := by
  refine pcall_intro func364 rfl rfl ?_
  repeat' ((conv => whnf) <;> first
    | refine wpB_t rfl ?_
    | refine wpB_f rfl ?_
    | refine wpLen_i ?_
    | refine wpN_e (n := 0) rfl ?_
    | refine wpN_e (n := 1) rfl ?_
    | refine wpN_e (n := 2) rfl ?_
    | refine wpN_e (n := 3) rfl ?_
    | refine wpN_e (n := 4) rfl ?_
    | refine wpN_e (n := 5) rfl ?_
    | refine wpN_e (n := 6) rfl ?_
    | refine wpN_e (n := 7) rfl ?_
    | refine wpN_e (n := 8) rfl ?_
    | refine wpN_e (n := 9) rfl ?_
    | refine wpN_e (n := 10) rfl ?_
    | refine wpN_e (n := 11) rfl ?_
    | refine wpN_e (n := 12) rfl ?_
    | refine wpN_e (n := 13) rfl ?_
    | refine wpN_e (n := -1) rfl ?_
    | refine wpN_e (n := 100) rfl ?_
    | refine wpN_e (n := 1099511627776) rfl ?_
    | refine loop_unroll' ?_
    | refine wpRegD_i rfl ?_
    | refine wpSide_i ⟨rfl, trivial⟩ ?_
    | refine wpSide_i trivial ?_
    | refine wpSide_i (by decide) ?_
    | refine wpSide_i (by simp) ?_
    | refine wpSide_i (by constructor <;> decide) ?_
    | refine wpIdx_i (n := 0) rfl rfl rfl ?_
    | refine wpIdx_i (n := 1) rfl rfl rfl ?_
    | refine wpIdx_i (n := 2) rfl rfl rfl ?_
    | refine wpIdx_i (n := 3) rfl rfl rfl ?_
    | refine wpIdx_i (n := 4) rfl rfl rfl ?_
    | refine wpIdx_i (n := 5) rfl rfl rfl ?_
    | refine wpIdx_i (n := 6) rfl rfl rfl ?_
    | refine wpIdx_i (n := 7) rfl rfl rfl ?_
    | refine wpIdx_i (n := 8) rfl rfl rfl ?_
    | refine wpIdx_i (n := 9) rfl rfl rfl ?_
    | refine wpIdx_i (n := 10) rfl rfl rfl ?_
    | refine wpIdx_i (n := 11) rfl rfl rfl ?_
    | refine wpIdx_i (n := 12) rfl rfl rfl ?_
    | refine wpIdx_i (n := 13) rfl rfl rfl ?_
    | refine ⟨rfl, ?_⟩
    | refine ⟨_, rfl, ?_⟩
    | exact rfl)
set_option maxRecDepth 100000 in
theorem tell85 (ht : TOK Pr cfg.T) (hm : Pr.follows .mixedOrders = true) (hC : ∀ f ar bs out bs', PCX I f ar bs out bs' → Sound Pr cfg.T f ar bs out bs') (hJ : SoundJ Pr cfg.T (Jn cfg Pr (PCX I) 4)) :
    Sound Pr cfg.T 85 [.w (.agg [.p (.v (vI 0)), .p (.sl [])]), .int 0] [] (.ret (.tup [.agg [.p (.v (vI 0)), .p (.sl [])], .one (.p (.sl [])), .one (.p (.v (vI 0)))])) [] := by
  refine range0_sound ht hm hC hJ (Jn_self 4) rfl rfl rfl rfl rfl rfl func85 rfl rfl ?_
  repeat' ((conv => whnf) <;> first
    | refine wpB_t rfl ?_
    | refine wpB_f rfl ?_
    | refine wpLen_i ?_
    | refine wpN_e (n := 0) rfl ?_
    | refine wpN_e (n := 1) rfl ?_
    | refine wpN_e (n := 2) rfl ?_
    | refine wpN_e (n := 3) rfl ?_
    | refine wpN_e (n := 4) rfl ?_
    | refine wpN_e (n := 5) rfl ?_
    | refine wpN_e (n := 6) rfl ?_
    | refine wpN_e (n := 7) rfl ?_
    | refine wpN_e (n := 8) rfl ?_
    | refine wpN_e (n := 9) rfl ?_
    | refine wpN_e (n := 10) rfl ?_
    | refine wpN_e (n := 11) rfl ?_
    | refine wpN_e (n := 12) rfl ?_
    | refine wpN_e (n := 13) rfl ?_
    | refine wpN_e (n := -1) rfl ?_
    | refine wpN_e (n := 100) rfl ?_
    | refine wpN_e (n := 1099511627776) rfl ?_
    | refine loop_unroll' ?_
    | refine wpRegD_i rfl ?_
    | refine wpSide_i ⟨rfl, trivial⟩ ?_
    | refine wpSide_i trivial ?_
    | refine wpSide_i (by decide) ?_
    | refine wpSide_i (by simp) ?_
    | refine wpSide_i (by constructor <;> decide) ?_
    | refine wpIdx_i (n := 0) rfl rfl rfl ?_
    | refine wpIdx_i (n := 1) rfl rfl rfl ?_
    | refine wpIdx_i (n := 2) rfl rfl rfl ?_
    | refine wpIdx_i (n := 3) rfl rfl rfl ?_
    | refine wpIdx_i (n := 4) rfl rfl rfl ?_
    | refine wpIdx_i (n := 5) rfl rfl rfl ?_
    | refine wpIdx_i (n := 6) rfl rfl rfl ?_
    | refine wpIdx_i (n := 7) rfl rfl rfl ?_
    | refine wpIdx_i (n := 8) rfl rfl rfl ?_
    | refine wpIdx_i (n := 9) rfl rfl rfl ?_
    | refine wpIdx_i (n := 10) rfl rfl rfl ?_
    | refine wpIdx_i (n := 11) rfl rfl rfl ?_
    | refine wpIdx_i (n := 12) rfl rfl rfl ?_
    | refine wpIdx_i (n := 13) rfl rfl rfl ?_
    | refine wpCall_r al97e ?_
    | (apply wpCall_r; apply pcall_intro func194 rfl rfl)
    | (apply wpCall_r; apply pcall_intro func210 rfl rfl)
    | (apply wpCall_r; apply pcall_intro func196 rfl rfl)
    | refine ⟨⟨.ret _, _, clone316 _ (by simp) (by simp), ?_⟩⟩
    | refine ⟨⟨.ret _, _, clone188 _ (by simp) (by simp), ?_⟩⟩
    | refine ⟨⟨.ret _, _, clone285 _ (by simp) (by simp), ?_⟩⟩
    | refine ⟨⟨.ret _, _, clone195 _ (by simp) (by simp), ?_⟩⟩
    | refine ⟨⟨.ret _, _, clone460 _ (by simp) (by simp), ?_⟩⟩
    | refine ⟨⟨.ret _, _, clone360 _ (by simp) (by simp), ?_⟩⟩
    | refine ⟨⟨_, _, _, rfl, al364e, rfl, fun D => ?_⟩⟩
    | refine ⟨rfl, ?_⟩
    | refine ⟨_, rfl, ?_⟩
    | exact rfl)
end Go.Fw
namespace Go.Fw
open Go Go.Proofs.Tryz
variable {I : CallRel}
def tellA : List AV := [.w (.agg [.p (.v (vI 0)), .p (.sl [])]), .int 0]
def tellR : Out := .ret (.tup [.agg [.p (.v (vI 0)), .p (.sl [])], .one (.p (.sl [])), .one (.p (.v (vI 0)))])
set_option maxRecDepth 100000 in
theorem step24c (hT : PCX I 85 [.w (.agg [.p (.v (vI 0)), .p (.sl [])]), .int 0] [] (.ret (.tup [.agg [.p (.v (vI 0)), .p (.sl [])], .one (.p (.sl [])), .one (.p (.v (vI 0)))])) []) :
    PCX I 24 [.w (.agg [.p (.sl []), .p (.sl []), .p (.sl []), .p (.sl []), .p (.sl []), .p (.sl []), .p (.v (vI 0)), .p (.sl []), .p (.v (vI 0)), .p (.v (vI 0))]), .w (.agg [.p (.v (vI 1)), .p (.v (vS [99, 117, 112])), .p (.v (vS [])), .p (.v (vI 0)), .p (.v (vI 0)), .p (.v (vI 0)), .p (.v (vI 0)), .p (.v (vI 0)), .p (.v (vI 0)), .p (.v (.bool false))])] [] (.ret (.tup [.agg [.p (.sl [[vS [99, 117, 112]]]), .p (.sl []), .p (.sl []), .p (.sl []), .p (.sl []), .p (.sl []), .p (.v (vI 0)), .p (.sl []), .p (.v (vI 0)), .p (.v (vI 0))], .agg [.p (.v (vI 0)), .p (.v (vI 0)), .p (.sl []), .p (.sl []), .p (.sl [])], .one (.p (.v (vI 0)))])) [] := by
  refine pcall_intro func24 rfl rfl ?_
  repeat' ((conv => whnf) <;> first
    | refine wpB_t rfl ?_
    | refine wpB_f rfl ?_
    | refine wpLen_i ?_
    | refine wpN_e (n := 0) rfl ?_
    | refine wpN_e (n := 1) rfl ?_
    | refine wpN_e (n := 2) rfl ?_
    | refine wpN_e (n := 3) rfl ?_
    | refine wpN_e (n := 4) rfl ?_
    | refine wpN_e (n := 5) rfl ?_
    | refine wpN_e (n := 6) rfl ?_
    | refine wpN_e (n := 7) rfl ?_
    | refine wpN_e (n := 8) rfl ?_
    | refine wpN_e (n := 9) rfl ?_
    | refine wpN_e (n := 10) rfl ?_
    | refine wpN_e (n := 11) rfl ?_
    | refine wpN_e (n := 12) rfl ?_
    | refine wpN_e (n := 13) rfl ?_
    | refine wpN_e (n := -1) rfl ?_
    | refine wpN_e (n := 100) rfl ?_
    | refine wpN_e (n := 1099511627776) rfl ?_
    | refine loop_unroll' ?_
    | refine wpRegD_i rfl ?_
    | refine wpSide_i ⟨rfl, trivial⟩ ?_
    | refine wpSide_i trivial ?_
    | refine wpSide_i (by decide) ?_
    | refine wpSide_i (by simp) ?_
    | refine wpSide_i (by constructor <;> decide) ?_
    | refine wpIdx_i (n := 0) rfl rfl rfl ?_
    | refine wpIdx_i (n := 1) rfl rfl rfl ?_
    | refine wpIdx_i (n := 2) rfl rfl rfl ?_
    | refine wpIdx_i (n := 3) rfl rfl rfl ?_
    | refine wpIdx_i (n := 4) rfl rfl rfl ?_
    | refine wpIdx_i (n := 5) rfl rfl rfl ?_
    | refine wpIdx_i (n := 6) rfl rfl rfl ?_
    | refine wpIdx_i (n := 7) rfl rfl rfl ?_
    | refine wpIdx_i (n := 8) rfl rfl rfl ?_
    | refine wpIdx_i (n := 9) rfl rfl rfl ?_
    | refine wpIdx_i (n := 10) rfl rfl rfl ?_
    | refine wpIdx_i (n := 11) rfl rfl rfl ?_
    | refine wpIdx_i (n := 12) rfl rfl rfl ?_
    | refine wpIdx_i (n := 13) rfl rfl rfl ?_
    | refine wpCall_r al27e ?_
    | refine wpCall_r al35c ?_
    | refine wpCall_r al346c ?_
    | refine wpCall_r al83c ?_
    | refine wpCall_r al84c ?_
    | refine wpCall_r hT ?_
    | refine wpInl_i func82 rfl rfl ?_
    | refine wpInl_i func176 rfl rfl ?_
    | refine ⟨⟨.ret _, _, clone316 _ (by simp) (by simp), ?_⟩⟩
    | refine ⟨⟨.ret _, _, clone188 _ (by simp) (by simp), ?_⟩⟩
    | refine ⟨⟨.ret _, _, clone285 _ (by simp) (by simp), ?_⟩⟩
    | refine ⟨⟨.ret _, _, clone195 _ (by simp) (by simp), ?_⟩⟩
    | refine ⟨⟨.ret _, _, clone460 _ (by simp) (by simp), ?_⟩⟩
    | refine ⟨⟨.ret _, _, clone360 _ (by simp) (by simp), ?_⟩⟩
    | refine ⟨rfl, ?_⟩
    | refine ⟨_, rfl, ?_⟩
    | exact rfl)
end Go.Fw
namespace Go.Fw
open Go Go.Proofs.Tryz
variable {I : CallRel}
set_option maxRecDepth 100000 in
theorem alive28 (hT : PCX I 85 [.w (.agg [.p (.v (vI 0)), .p (.sl [])]), .int 0] [] (.ret (.tup [.agg [.p (.v (vI 0)), .p (.sl [])], .one (.p (.sl [])), .one (.p (.v (vI 0)))])) []) :
    PCX I 28 [] [] (.ret (AV.bool true)) [] := by
  refine pcall_intro func28 rfl rfl ?_
  repeat' ((conv => whnf) <;> first
    | refine wpB_t rfl ?_
    | refine wpB_f rfl ?_
    | refine wpLen_i ?_
    | refine wpN_e (n := 0) rfl ?_
    | refine wpN_e (n := 1) rfl ?_
    | refine wpN_e (n := 2) rfl ?_
    | refine wpN_e (n := 3) rfl ?_
    | refine wpN_e (n := 4) rfl ?_
    | refine wpN_e (n := 5) rfl ?_
    | refine wpN_e (n := 6) rfl ?_
    | refine wpN_e (n := 7) rfl ?_
    | refine wpN_e (n := 8) rfl ?_
    | refine wpN_e (n := 9) rfl ?_
    | refine wpN_e (n := 10) rfl ?_
    | refine wpN_e (n := 11) rfl ?_
    | refine wpN_e (n := 12) rfl ?_
    | refine wpN_e (n := 13) rfl ?_
    | refine wpN_e (n := -1) rfl ?_
    | refine wpN_e (n := 100) rfl ?_
    | refine wpN_e (n := 1099511627776) rfl ?_
    | refine loop_unroll' ?_
    | refine wpRegD_i rfl ?_
    | refine wpSide_i ⟨rfl, trivial⟩ ?_
    | refine wpSide_i trivial ?_
    | refine wpSide_i (by decide) ?_
    | refine wpSide_i (by simp) ?_
    | refine wpSide_i (by constructor <;> decide) ?_
    | refine wpIdx_i (n := 0) rfl rfl rfl ?_
    | refine wpIdx_i (n := 1) rfl rfl rfl ?_
    | refine wpIdx_i (n := 2) rfl rfl rfl ?_
    | refine wpIdx_i (n := 3) rfl rfl rfl ?_
    | refine wpIdx_i (n := 4) rfl rfl rfl ?_
    | refine wpIdx_i (n := 5) rfl rfl rfl ?_
    | refine wpIdx_i (n := 6) rfl rfl rfl ?_
    | refine wpIdx_i (n := 7) rfl rfl rfl ?_
    | refine wpIdx_i (n := 8) rfl rfl rfl ?_
    | refine wpIdx_i (n := 9) rfl rfl rfl ?_
    | refine wpIdx_i (n := 10) rfl rfl rfl ?_
    | refine wpIdx_i (n := 11) rfl rfl rfl ?_
    | refine wpIdx_i (n := 12) rfl rfl rfl ?_
    | refine wpIdx_i (n := 13) rfl rfl rfl ?_
    | refine wpCall_r (step24c hT) ?_
    | refine ⟨rfl, ?_⟩
    | refine ⟨_, rfl, ?_⟩
    | exact rfl)
end Go.Fw
namespace Go.Fw
open Go
theorem mixed : Pr.follows .mixedOrders = true := by kernel_rfl
abbrev tellA1 : List AV := [.w (.agg [.p (.v (vI 0)), .p (.sl [])]), .int 0]
abbrev tellO1 : Out := .ret (.tup [.agg [.p (.v (vI 0)), .p (.sl [])], .one (.p (.sl [])), .one (.p (.v (vI 0)))])
/-- Tell on the empty outbox, told from outside. -/
def I1 : CallRel := fun f ar bs out bs' => f = 85 ∧ ar = tellA1 ∧ bs = [] ∧ out = tellO1 ∧ bs' = []
theorem sound0 {f : FuncId} {ar : List AV} {bs : List Blk} {out : Out} {bs' : List Blk} (h : PCX I0 f ar bs out bs') : Sound Pr T f ar bs out bs' :=
  PCall_sound (G := cfg) tok mixed soundJ (fun _ _ _ _ _ h => h.elim) _ _ _ _ _ h
theorem soundI1 : ∀ f ar bs out bs', I1 f ar bs out bs' → Sound Pr T f ar bs out bs' := by
  rintro f ar bs out bs' ⟨rfl, rfl, rfl, rfl, rfl⟩
  exact tell85 (I := I0) tok mixed (fun _ _ _ _ _ h => sound0 h) (Jn_sound (G := cfg) tok mixed soundJ (fun _ _ _ _ _ h => sound0 h) 4)
theorem sound1 {f : FuncId} {ar : List AV} {bs : List Blk} {out : Out} {bs' : List Blk} (h : PCX I1 f ar bs out bs') : Sound Pr T f ar bs out bs' :=
  PCall_sound (G := cfg) tok mixed soundJ soundI1 _ _ _ _ _ h
theorem alive1 : PCX I1 28 [] [] (.ret (AV.bool true)) [] := alive28 (PCall_I ⟨rfl, rfl, rfl, rfl, rfl⟩)
end Go.Fw
/- Walks of slices' functions, printed by gen_sl.py. -/
namespace Go.Fw
open Go Go.Proofs.Tryz
variable {I : CallRel}
def bE (c : UInt8) : List Value := [.int .u8 c.toNat]
def sE (s : Str) : List Value := [vS s]
def idxOf {α : Type} (p : α → Bool) : List α → Int → Int
  | [], _ => -1
  | x :: xs, i => bif p x then i else idxOf p xs (i + 1)
theorem idxOf_nonneg {α : Type} (p : α → Bool) : ∀ (l : List α) (i : Int), 0 ≤ i → decide (0 ≤ idxOf p l i) = l.any p
  | [], i, h => by simp [idxOf]
  | x :: l, i, h => by
    by_cases hp : p x = true
    · simp [idxOf, hp, h]
    · have hf : p x = false := by simpa using hp
      have ih := idxOf_nonneg p l (i + 1) (by omega)
      have e : idxOf p (x :: l) i = idxOf p l (i + 1) := by simp [idxOf, hf]
      rw [e, ih, List.any_cons, hf, Bool.false_or]
theorem idxOf_any {α : Type} (p : α → Bool) (l : List α) : decide (0 ≤ idxOf p l 0) = l.any p := idxOf_nonneg p l 0 (by omega)
set_option maxRecDepth 100000 in
theorem indexFunc481 (l : List UInt8) (f : FuncId) (pre caps : List Cap) (p : UInt8 → Bool)
    (hp : ∀ x : UInt8, PCX I f (pre.map capAV ++ [AV.one (.p (.v (.int .u8 x.toNat)))] ++ caps.map capAV) [] (.ret (.bool (p x))) []) :
    PCX I 481 [.one (.p (.sl (l.map bE))), .one (.fn f pre caps)] [] (.ret (.int (idxOf p l 0))) [] := by
  refine pcall_intro func481 rfl rfl ?_
  conv => whnf
  refine wpLen_b ?_
  intro hl
  have hl' : l.length ≤ 140737488355328 := by simpa using hl
  conv => whnf
  refine loop_rule (fun i : Nat => mkS [(0, .one (.p (.sl (l.map bE)))), (1, .one (.fn f pre caps)), (7, .int (l.map bE).length), (8, .int i)] [] 0 19 0)
    (fun i => i ≤ l.length ∧ idxOf p (l.drop i) i = idxOf p l 0) (fun i => l.length - i) 0 ?_ ?_ ?_
  · exact le_mkS ⟨.inl ⟨rfl, rfl⟩, .inl ⟨rfl, rfl⟩, .inl ⟨rfl, rfl⟩, .inl ⟨rfl, rfl⟩, trivial⟩ trivial rfl rfl
  · simp
  · intro i ⟨hi, hq⟩ next hnext
    conv => whnf
    refine wpB_c (fun h => ?_) (fun h => ?_)
    · have hlt : i < l.length := by simp at h; omega
      obtain ⟨x, hx⟩ := get_lt hlt
      conv => whnf
      refine wpSide_i trivial (wpIdx_i (n := i) rfl (get_map bE hx) rfl ?_)
      conv => whnf
      refine wpCall_b (hp x) (fun h => ?_) (fun h => ?_)
      · refine retI (congrArg AV.int (?_ : _ = idxOf p l 0))
        rw [← hq, drop_get hx]
        simp [idxOf, h]
      · conv => whnf
        refine wpN_succ hlt hl' ?_
        refine hnext (i + 1) _ ⟨hlt, ?_⟩ (by omega) ?_
        · rw [← hq, drop_get hx]; simp [idxOf, h]
        · exact le_mkS ⟨.inl ⟨rfl, rfl⟩, .inl ⟨rfl, rfl⟩, .inl ⟨rfl, rfl⟩, .inl ⟨rfl, rfl⟩, trivial⟩ trivial rfl rfl
    · have : i = l.length := by simp at h; omega
      subst this
      refine retI (congrArg AV.int (?_ : _ = idxOf p l 0))
      rw [← hq]; simp [idxOf]
set_option maxRecDepth 100000 in
theorem containsFunc369 (l : List UInt8) (f : FuncId) (pre caps : List Cap) (p : UInt8 → Bool)
    (hp : ∀ x : UInt8, PCX I f (pre.map capAV ++ [AV.one (.p (.v (.int .u8 x.toNat)))] ++ caps.map capAV) [] (.ret (.bool (p x))) []) :
    PCX I 369 [.one (.p (.sl (l.map bE))), .one (.fn f pre caps)] [] (.ret (.bool (l.any p))) [] := by
  refine pcall_intro func369 rfl rfl ?_
  conv => whnf
  refine wpCall_r (indexFunc481 l f pre caps p hp) ?_
  conv => whnf
  refine wpB_i ?_
  refine retI (congrArg AV.bool (?_ : _ = l.any p))
  exact idxOf_any p l
set_option maxRecDepth 100000 in
theorem indexFunc367 (l : List Str) (f : FuncId) (pre caps : List Cap) (p : Str → Bool)
    (hp : ∀ x : Str, PCX I f (pre.map capAV ++ [AV.str x] ++ caps.map capAV) [] (.ret (.bool (p x))) []) :
    PCX I 367 [.one (.p (.sl (l.map sE))), .one (.fn f pre caps)] [] (.ret (.int (idxOf p l 0))) [] := by
  refine pcall_intro func367 rfl rfl ?_
  conv => whnf
  refine wpLen_b ?_
  intro hl
  have hl' : l.length ≤ 140737488355328 := by simpa using hl
  conv => whnf
  refine loop_rule (fun i : Nat => mkS [(0, .one (.p (.sl (l.map sE)))), (1, .one (.fn f pre caps)), (7, .int (l.map sE).length), (8, .int i)] [] 0 19 0)
    (fun i => i ≤ l.length ∧ idxOf p (l.drop i) i = idxOf p l 0) (fun i => l.length - i) 0 ?_ ?_ ?_
  · exact le_mkS ⟨.inl ⟨rfl, rfl⟩, .inl ⟨rfl, rfl⟩, .inl ⟨rfl, rfl⟩, .inl ⟨rfl, rfl⟩, trivial⟩ trivial rfl rfl
  · simp
  · intro i ⟨hi, hq⟩ next hnext
    conv => whnf
    refine wpB_c (fun h => ?_) (fun h => ?_)
    · have hlt : i < l.length := by simp at h; omega
      obtain ⟨x, hx⟩ := get_lt hlt
      conv => whnf
      refine wpSide_i trivial (wpIdx_i (n := i) rfl (get_map sE hx) rfl ?_)
      conv => whnf
      refine wpCall_b (hp x) (fun h => ?_) (fun h => ?_)
      · refine retI (congrArg AV.int (?_ : _ = idxOf p l 0))
        rw [← hq, drop_get hx]
        simp [idxOf, h]
      · conv => whnf
        refine wpN_succ hlt hl' ?_
        refine hnext (i + 1) _ ⟨hlt, ?_⟩ (by omega) ?_
        · rw [← hq, drop_get hx]; simp [idxOf, h]
        · exact le_mkS ⟨.inl ⟨rfl, rfl⟩, .inl ⟨rfl, rfl⟩, .inl ⟨rfl, rfl⟩, .inl ⟨rfl, rfl⟩, trivial⟩ trivial rfl rfl
    · have : i = l.length := by simp at h; omega
      subst this
      refine retI (congrArg AV.int (?_ : _ = idxOf p l 0))
      rw [← hq]; simp [idxOf]
set_option maxRecDepth 100000 in
theorem containsFunc200 (l : List Str) (f : FuncId) (pre caps : List Cap) (p : Str → Bool)
    (hp : ∀ x : Str, PCX I f (pre.map capAV ++ [AV.str x] ++ caps.map capAV) [] (.ret (.bool (p x))) []) :
    PCX I 200 [.one (.p (.sl (l.map sE))), .one (.fn f pre caps)] [] (.ret (.bool (l.any p))) [] := by
  refine pcall_intro func200 rfl rfl ?_
  conv => whnf
  refine wpCall_r (indexFunc367 l f pre caps p hp) ?_
  conv => whnf
  refine wpB_i ?_
  refine retI (congrArg AV.bool (?_ : _ = l.any p))
  exact idxOf_any p l
end Go.Fw
namespace Go.Fw
open Go Go.Proofs.Tryz
variable {I : CallRel}
/-! goods.name, and a name among goods -/
def odd (c : UInt8) : Bool := (decide (c.toNat < 97) || decide (122 < c.toNat)) && (decide (c.toNat < 48) || decide (57 < c.toNat))
def nameOK (s : Str) : Bool := decide (s ≠ []) && (decide (s.length ≤ 16) && !(s.any odd))
set_option maxRecDepth 100000 in
theorem odd368 (c : UInt8) : PCX I 368 [.one (.p (.v (.int .u8 c.toNat)))] [] (.ret (.bool (odd c))) [] := by
  refine pcall_intro func368 rfl rfl ?_
  repeat' ((conv => whnf) <;> first
    | refine wpB_c (fun h => ?_) (fun h => ?_)
    | refine retI (congrArg AV.bool (?_ : _ = odd c)))
  all_goals (simp at *; simp [odd, *]; try omega)
set_option maxRecDepth 100000 in
theorem name202 (s : Str) : PCX I 202 [AV.str s] [] (.ret (.bool (nameOK s))) [] := by
  refine pcall_intro func202 rfl rfl ?_
  conv => whnf
  refine wpB_c (fun h => ?_) (fun h => ?_)
  · conv => whnf
    refine wpB_c (fun h2 => ?_) (fun h2 => ?_)
    · conv => whnf
      refine wpSide_i (by simp at h2; omega) ?_
      conv => whnf
      refine wpCall_b (containsFunc369 s 368 [] [] odd odd368) (fun h3 => ?_) (fun h3 => ?_)
      · exact retI (congrArg AV.bool (by have h3' : s.any odd = true := h3; simp only [nameOK, h3']; simp))
      · exact retI (congrArg AV.bool (by
          have h3' : s.any odd = false := h3
          have e1 : decide (s ≠ []) = true := by simp at h; simp [h]
          have e2 : decide (s.length ≤ 16) = true := by simp at h2; simp; omega
          simp only [nameOK, h3', e1, e2]; rfl))
    · exact retI (congrArg AV.bool (by
        have e2 : decide (s.length ≤ 16) = false := by simp at h2; simp; omega
        simp only [nameOK, e2]; simp))
  · exact retI (congrArg AV.bool (by
      have e1 : decide (s ≠ []) = false := by simp at h; simp [h]
      simp only [nameOK, e1]; rfl))
set_option maxRecDepth 100000 in
theorem notName201 (s : Str) : PCX I 201 [AV.str s] [] (.ret (.bool (!nameOK s))) [] := by
  refine pcall_intro func201 rfl rfl ?_
  conv => whnf
  refine wpCall_r (name202 s) ?_
  conv => whnf
  exact retI rfl
set_option maxRecDepth 100000 in
theorem rising203 (s : Str) : PCX I 203 [.one (.p (.sl [[vS s]])), .int 8, .one (.fn 204 [] [])] [] (.ret (.bool true)) [] := by
  refine pcall_intro func203 rfl rfl ?_
  repeat' ((conv => whnf) <;> first
    | refine wpB_t rfl ?_
    | refine wpB_f rfl ?_
    | refine wpLen_i ?_
    | refine wpN_e (n := 0) rfl ?_
    | refine wpN_e (n := 1) rfl ?_
    | refine wpN_e (n := 2) rfl ?_
    | refine wpN_e (n := -1) rfl ?_
    | refine wpN_e (n := 100) rfl ?_
    | refine wpN_e (n := 1099511627776) rfl ?_
    | refine loop_unroll' ?_
    | refine wpRegD_i rfl ?_
    | refine wpSide_i ⟨rfl, trivial⟩ ?_
    | refine wpSide_i trivial ?_
    | refine wpSide_i (by decide) ?_
    | refine wpSide_i (by simp) ?_
    | refine wpSide_i (by constructor <;> decide) ?_
    | refine wpIdx_i (n := 0) rfl rfl rfl ?_
    | refine wpIdx_i (n := 1) rfl rfl rfl ?_
    | refine wpIdx_i (n := 2) rfl rfl rfl ?_
    | refine ⟨rfl, ?_⟩
    | refine ⟨_, rfl, ?_⟩
    | exact rfl)
set_option maxRecDepth 100000 in
theorem rising205e : PCX I 205 [.one (.p (.sl [])), .int 16, .one (.fn 206 [] [])] [] (.ret (.bool true)) [] := by
  refine pcall_intro func205 rfl rfl ?_
  repeat' ((conv => whnf) <;> first
    | refine wpB_t rfl ?_
    | refine wpB_f rfl ?_
    | refine wpLen_i ?_
    | refine wpN_e (n := 0) rfl ?_
    | refine wpN_e (n := 1) rfl ?_
    | refine wpN_e (n := 2) rfl ?_
    | refine wpN_e (n := -1) rfl ?_
    | refine wpN_e (n := 100) rfl ?_
    | refine wpN_e (n := 1099511627776) rfl ?_
    | refine loop_unroll' ?_
    | refine wpRegD_i rfl ?_
    | refine wpSide_i ⟨rfl, trivial⟩ ?_
    | refine wpSide_i trivial ?_
    | refine wpSide_i (by decide) ?_
    | refine wpSide_i (by simp) ?_
    | refine wpSide_i (by constructor <;> decide) ?_
    | refine wpIdx_i (n := 0) rfl rfl rfl ?_
    | refine wpIdx_i (n := 1) rfl rfl rfl ?_
    | refine wpIdx_i (n := 2) rfl rfl rfl ?_
    | refine ⟨rfl, ?_⟩
    | refine ⟨_, rfl, ?_⟩
    | exact rfl)
theorem notName_any (s : Str) : List.any [s] (fun s => !nameOK s) = !nameOK s := by simp
set_option maxRecDepth 100000 in
theorem goods94n (s : Str) : PCX I 94 [.w (.agg [.p (.sl [[vS s]]), .p (.sl [])])] [] (.ret (.bool (nameOK s))) [] := by
  refine pcall_intro func94 rfl rfl ?_
  repeat' ((conv => whnf) <;> first
    | refine wpB_t rfl ?_
    | refine wpB_f rfl ?_
    | refine wpLen_i ?_
    | refine wpN_e (n := 0) rfl ?_
    | refine wpN_e (n := 1) rfl ?_
    | refine wpN_e (n := 2) rfl ?_
    | refine wpN_e (n := -1) rfl ?_
    | refine wpN_e (n := 100) rfl ?_
    | refine wpN_e (n := 1099511627776) rfl ?_
    | refine loop_unroll' ?_
    | refine wpRegD_i rfl ?_
    | refine wpSide_i ⟨rfl, trivial⟩ ?_
    | refine wpSide_i trivial ?_
    | refine wpSide_i (by decide) ?_
    | refine wpSide_i (by simp) ?_
    | refine wpSide_i (by constructor <;> decide) ?_
    | refine wpIdx_i (n := 0) rfl rfl rfl ?_
    | refine wpIdx_i (n := 1) rfl rfl rfl ?_
    | refine wpIdx_i (n := 2) rfl rfl rfl ?_
    | refine ⟨rfl, ?_⟩
    | refine ⟨_, rfl, ?_⟩
    | exact rfl)
  all_goals (conv => whnf)
  refine wpCall_b (containsFunc200 [s] 201 [] [] (fun s => !nameOK s) notName201) (fun h => ?_) (fun h => ?_)
  · have h' : nameOK s = false := by simpa using h
    rw [h']
    repeat' ((conv => whnf) <;> first
      | refine wpB_t rfl ?_
      | refine wpB_f rfl ?_
      | refine wpLen_i ?_
      | refine wpN_e (n := 0) rfl ?_
      | refine wpN_e (n := 1) rfl ?_
      | refine wpN_e (n := 2) rfl ?_
      | refine wpN_e (n := -1) rfl ?_
      | refine wpN_e (n := 100) rfl ?_
      | refine wpN_e (n := 1099511627776) rfl ?_
      | refine loop_unroll' ?_
      | refine wpRegD_i rfl ?_
      | refine wpSide_i ⟨rfl, trivial⟩ ?_
      | refine wpSide_i trivial ?_
      | refine wpSide_i (by decide) ?_
      | refine wpSide_i (by simp) ?_
      | refine wpSide_i (by constructor <;> decide) ?_
      | refine wpIdx_i (n := 0) rfl rfl rfl ?_
      | refine wpIdx_i (n := 1) rfl rfl rfl ?_
      | refine wpIdx_i (n := 2) rfl rfl rfl ?_
      | refine ⟨rfl, ?_⟩
      | refine ⟨_, rfl, ?_⟩
      | exact rfl)
  · have h' : nameOK s = true := by simpa using h
    rw [h']
    repeat' ((conv => whnf) <;> first
      | refine wpB_t rfl ?_
      | refine wpB_f rfl ?_
      | refine wpLen_i ?_
      | refine wpN_e (n := 0) rfl ?_
      | refine wpN_e (n := 1) rfl ?_
      | refine wpN_e (n := 2) rfl ?_
      | refine wpN_e (n := -1) rfl ?_
      | refine wpN_e (n := 100) rfl ?_
      | refine wpN_e (n := 1099511627776) rfl ?_
      | refine loop_unroll' ?_
      | refine wpRegD_i rfl ?_
      | refine wpSide_i ⟨rfl, trivial⟩ ?_
      | refine wpSide_i trivial ?_
      | refine wpSide_i (by decide) ?_
      | refine wpSide_i (by simp) ?_
      | refine wpSide_i (by constructor <;> decide) ?_
      | refine wpIdx_i (n := 0) rfl rfl rfl ?_
      | refine wpIdx_i (n := 1) rfl rfl rfl ?_
      | refine wpIdx_i (n := 2) rfl rfl rfl ?_
      | refine wpCall_r (rising203 s) ?_
      | refine wpCall_r rising205e ?_
      | refine ⟨rfl, ?_⟩
      | refine ⟨_, rfl, ?_⟩
      | exact rfl)
set_option maxRecDepth 100000 in
theorem name120 (s : Str) : PCX I 120 [AV.str s] [] (.ret (.bool (nameOK s))) [] := by
  refine pcall_intro func120 rfl rfl ?_
  conv => whnf
  refine ⟨rfl, ?_⟩
  conv => whnf
  refine wpCall_r (goods94n s) ?_
  conv => whnf
  exact retI rfl
end Go.Fw
namespace Go.Fw
open Go Go.Proofs.Tryz
variable {I : CallRel}
/-! shop.Right -/
abbrev AV.r32 (r : Int) : AV := .one (.p (.v (.int .i32 r)))
def hasR (s : Str) (r : Int) : Bool := s.any fun c => decide ((c.toNat : Int) = r)
def ascii (s : Str) : Prop := ∀ c ∈ s, c.toNat < 128
def hasL : List Str := [[], [115], [115, 116, 65, 66, 67], [115, 65], [115, 65], [115, 65, 66, 67, 68, 69, 70, 121], [65], [65, 66], [65], [65], [65], [65, 66], [65, 121]]
def num40 (n : Int) : Bool := decide (0 ≤ n) && decide (n ≤ 1099511627776)
set_option maxRecDepth 100000 in
theorem has117 : PCX I 117 [] [] (.ret (.one (.p (.sl (hasL.map sE))))) [] := by
  refine pcall_intro func117 rfl rfl ?_
  repeat' ((conv => whnf) <;> first
    | refine wpB_t rfl ?_
    | refine wpB_f rfl ?_
    | refine wpLen_i ?_
    | refine wpN_e (n := 0) rfl ?_
    | refine wpN_e (n := 1) rfl ?_
    | refine wpN_e (n := -1) rfl ?_
    | refine wpN_e (n := 100) rfl ?_
    | refine wpN_e (n := 1099511627776) rfl ?_
    | refine loop_unroll' ?_
    | refine wpRegD_i rfl ?_
    | refine wpSide_i ⟨rfl, trivial⟩ ?_
    | refine wpSide_i trivial ?_
    | refine wpSide_i (by decide) ?_
    | refine wpSide_i (by simp) ?_
    | refine wpSide_i (by constructor <;> decide) ?_
    | refine wpIdx_i (n := 0) rfl rfl rfl ?_
    | refine wpIdx_i (n := 1) rfl rfl rfl ?_
    | refine ⟨rfl, ?_⟩
    | refine ⟨_, rfl, ?_⟩
    | exact rfl)
set_option maxRecDepth 100000 in
theorem num121 (n : Int) : PCX I 121 [AV.int n] [] (.ret (.bool (num40 n))) [] := by
  refine pcall_intro func121 rfl rfl ?_
  repeat' ((conv => whnf) <;> first
    | refine wpB_c (fun h => ?_) (fun h => ?_)
    | refine retI (congrArg AV.bool (?_ : _ = num40 n)))
  all_goals (simp at *; simp [num40, *]; try omega)
set_option maxRecDepth 100000 in
theorem hasRune119 (s : Str) (r : Int) (hs : ascii s) : PCX I 119 [AV.str s, AV.r32 r] [] (.ret (.bool (hasR s r))) [] := by
  refine pcall_intro func119 rfl rfl ?_
  conv => whnf
  refine loop_rule (fun i : Nat => mkS [(1, AV.r32 r), (8, .one (.ptr 0 0))] [(0, .iter s i)] 1 15 0)
    (fun i => i ≤ s.length ∧ hasR (s.drop i) r = hasR s r) (fun i => s.length - i) 0 ?_ ?_ ?_
  · exact le_mkS ⟨.inl ⟨rfl, rfl⟩, .inl ⟨rfl, rfl⟩, trivial⟩ ⟨.inl ⟨rfl, rfl⟩, trivial⟩ rfl rfl
  · simp
  · intro i ⟨hi, hq⟩ next hnext
    conv => whnf
    refine wpB_c (fun h => ?_) (fun h => ?_)
    · have hlt : i < s.length := by simpa using h
      obtain ⟨x, hx⟩ := get_lt hlt
      have hg : s.getD i 0 = x := by rw [List.getD_eq_getElem?_getD, hx]; rfl
      have hxa : x.toNat < 128 := hs x (List.mem_of_getElem? hx)
      conv => whnf
      refine wpSide_i (by rw [hg]; exact hxa) ?_
      conv => whnf
      refine wpB_c (fun h2 => ?_) (fun h2 => ?_)
      · rw [hg] at h2
        refine retI (congrArg AV.bool (?_ : _ = hasR s r))
        rw [← hq, drop_get hx]; simp at h2; simp [hasR, h2]
      · rw [hg] at h2
        refine hnext (i + 1) _ ⟨hlt, ?_⟩ (by omega) ?_
        · rw [← hq, drop_get hx]; simp at h2; simp [hasR, h2]
        · exact le_mkS ⟨.inl ⟨rfl, rfl⟩, .inl ⟨rfl, rfl⟩, trivial⟩ ⟨.inl ⟨rfl, rfl⟩, trivial⟩ rfl rfl
    · have : i = s.length := by simp at h; omega
      subst this
      refine retI (congrArg AV.bool (?_ : _ = hasR s r))
      rw [← hq]; simp [hasR]
end Go.Fw
