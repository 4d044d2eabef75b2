/- A part of the proof of Rows.ShopBackSaid: what ShopBack answers, whatever the arguments; it stands under no condition. -/
import Derived.Test.YtdehaflkiobnlaaGreatBack06
set_option linter.unusedVariables false
set_option linter.unusedSimpArgs false
set_option linter.unusedSectionVars false
set_option linter.deprecated false
/- What is handed back; a call that the evaluator has followed is one that comes to that end. -/
namespace Go.Fw
open Go Go.RowKit

section
variable {P : Program} {G : Cfg} (ht : TOK P G.T) {X : Ctx2}
include ht

theorem ret_sound {fn : Func} {s : St} {a : Act} {w : World} {E : Env} {r : AV} (hX : X.bs0 = fun _ => .none) (hs : Sim G.T X s a w E) (h : retQ G fn r s) :
    ∃ v, (results fn a.tmps).run P w = .ok v w ∧ ∃ E', Frame X.toCtx w E'.F ∧ RA (fun _ => .none) w E' r v := by
  obtain ⟨m, vs, h1, h2, h3⟩ := resK_sound ht hs h
  have hA : A2 (RA s.bs w E) (m.map AV.w) vs := A2.map_left (f := AV.w) h2
  obtain ⟨l', rs, ⟨m', rfl, hr⟩, hrs, hq⟩ := argsK_sound hs.bl hA (retLK_args h1)
  refine ⟨if h : vs.toArray.size = 1 then vs.toArray[0] else .tuple vs.toArray, results_run h3, ⟨E.σ, E.sv, fun b => E.F b ∨ ∃ r ∈ rs, (E.sv r).ownBlock = some b⟩, ?_, ?_⟩
  · exact
      { flt := fun b hb => by
          rcases hb with hb | ⟨r, hr, hb⟩
          · exact hs.fr.flt b hb
          · obtain ⟨e, xs, fz, he⟩ := hrs r hr
            have hB := hs.bl.blk r
            rw [he] at hB
            refine ⟨(hB.2.2.2.1.lt b hb).2, ?_⟩
            cases fz with
            | true => exact (hs.fr.flt b (hB.2.2.2.2 rfl b hb)).2
            | false =>
              have hm : mblk s.bs E r = some b := by simp [mblk, he, hb]
              rcases hs.own r b hm with ⟨_, h⟩ | h
              · rw [hX] at h; simp [mblk] at h
              · exact .inr h
        fge := fun b hb => .inl (hs.fr.fge b hb), os := hs.fr.os, tape := hs.fr.tape, output := hs.fr.output, grow := hs.fr.grow, keep := hs.fr.keep }
  · have hq' := hq (fun b => E.F b ∨ ∃ r ∈ rs, (E.sv r).ownBlock = some b) (fun b hb => .inl hb) (fun r hr b hb => .inr ⟨r, hr, hb⟩)
    subst hr
    cases m' with
    | nil =>
      cases vs with
      | nil => exact ⟨_, rfl, trivial⟩
      | cons v vs => exact hq'.elim
    | cons x m' =>
      cases vs with
      | nil => exact hq'.elim
      | cons v vs =>
        cases m' with
        | nil =>
          cases vs with
          | nil => exact hq'.1
          | cons v' vs => exact hq'.2.elim
        | cons x' m' =>
          cases vs with
          | nil => exact hq'.2.elim
          | cons v' vs =>
            refine ⟨_, by simp; rfl, ?_⟩
            have go : ∀ {l : List W1} {us : List Value} {bs : Nat → Blk} {E : Env}, A2 (RA bs w E) (l.map AV.w) us → A2 (RW bs w E) l us := by
              intro l
              induction l with
              | nil => intro us _ _ h; cases us <;> exact h
              | cons x l ih => intro us _ _ h; cases us with
                | nil => exact h.elim
                | cons u us => exact ⟨h.1, ih h.2⟩
            exact go hq'

omit ht in
theorem init_tm {bs : Nat → Blk} {w : World} {E : Env} : ∀ {ar : List AV} {us : List Value}, A2 (RA bs w E) ar us → ∀ (k d : Nat), RA bs w E (ar.getD d .junk) ((us ++ List.replicate k undef).getD d undef)
  | [], [], _, k, d => by
    simp only [List.getD_nil]
    exact RA_junk _ _
  | x :: ar, u :: us, h, k, d => by
    cases d with
    | zero => simpa using h.1
    | succ d => simpa using init_tm h.2 k d


omit ht in
theorem posOf_get {r : Nat} : ∀ {os : List (Nat × Nat)} {k : Nat} {p : Nat × Nat}, posOf r os k = some p → ∃ i, p.1 = k + i ∧ os[i]? = some (r, p.2)
  | [], _, _, h => by simp [posOf] at h
  | q :: l, k, p, h => by
    unfold posOf at h
    cases hb : Nat.beq r q.1 with
    | true =>
      rw [hb] at h
      simp only [cond_true, Option.some.injEq] at h
      subst h
      have h1 := Nat.eq_of_beq_eq_true hb
      refine ⟨0, by simp, ?_⟩
      simp; exact Prod.ext h1.symm rfl
    | false =>
      rw [hb] at h
      simp only [cond_false] at h
      obtain ⟨i, h1, h2⟩ := posOf_get h
      exact ⟨i + 1, by omega, by simpa using h2⟩

omit ht in
theorem newB_get {s : St} : ∀ {os : List (Nat × Nat)} {bs : List Blk}, newB s os bs → os.length = bs.length ∧ ∀ (j : Nat) (p : Nat × Nat), os[j]? = some p → ∃ e xs, rowAt s p = some (e, xs) ∧ (xs.length = p.2 ∧ p.2 ≤ 140737488355328 ∧ match s.bs p.1 with | .buf _ _ _ => oneL xs | _ => True) ∧ bs[j]? = some (.vec e xs false)
  | [], [], _ => ⟨rfl, fun j r h => by simp at h⟩
  | p :: os, b :: bs, h => by
    obtain ⟨⟨e, xs, h1, h2, h3, h5⟩, h4⟩ := h
    obtain ⟨q1, q2⟩ := newB_get h4
    refine ⟨by simp [q1], fun j p' hj => ?_⟩
    cases j with
    | zero => simp at hj; subst hj; exact ⟨e, xs, h1, ⟨h3, h5⟩, by simp [h2]⟩
    | succ j => simpa using q2 j p' (by simpa using hj)
  | [], _ :: _, h => h.elim
  | _ :: _, [], h => h.elim
omit ht in
theorem keptB_get {s : St} {os : List (Nat × Nat)} : ∀ {bs : List Blk} {i : Nat}, keptB s os i bs → ∀ (j : Nat) (b : Blk), bs[j]? = some b → b = .dead ∨ (b = s.bs (i + j) ∧ (∀ p ∈ os, p.1 ≠ i + j) ∧ blkV b = true)
  | [], _, _, j, b, h => by simp at h
  | c :: bs, i, h, j, b, hj => by
    cases j with
    | zero =>
      simp at hj; subst hj
      refine h.1.imp (fun h => h) fun ⟨h1, h2, h3⟩ => ⟨by simpa using h1, fun p hp e => ?_, h3⟩
      have := List.all_eq_true.1 h2 p hp
      rw [e, Nat.add_zero, Nat.beq_refl] at this
      cases this
    | succ j =>
      have := keptB_get h.2 j b (by simpa using hj)
      rwa [Nat.add_assoc, Nat.add_comm 1 j] at this

theorem retO_sound {fn : Func} {s : St} {a : Act} {w : World} {E : Env} {r : AV} {bs bs' : List Blk} (hX : X.bs0 = bsF bs) (hs : Sim G.T X s a w E) (h : retO G fn bs.length r bs' s) :
    ∃ v, (results fn a.tmps).run P w = .ok v w ∧ ∃ E', Frame X.toCtx w E'.F ∧ RA (bsF bs') w E' r v ∧ Blocks G.T (bsF bs') w E' ∧ BExt (bsF bs) X.E0 (bsF bs') E' ∧
      ∀ r b, mblk (bsF bs') E' r = some b → (∃ q, mblk (bsF bs) X.E0 q = some b) ∨ X.w.heap.size ≤ b := by
  obtain ⟨m, vs, h1, h2, h3⟩ := resK_sound ht hs h.h
  obtain ⟨os, m', hd, hk, hkept, hnew, hlens, hout, rfl⟩ := h1
  obtain ⟨hlen, hget⟩ := newB_get hnew
  let k := bs.length
  let E' : Env := ⟨E.σ, fun j => if j < k then E.sv j else svAt (E.sv (os.getD (j - k) (0, 0)).1) (os.getD (j - k) (0, 0)).2, E.F⟩
  have hb' : ∀ j b, bs'[j]? = some b → bsF bs' j = b := fun j b h => by unfold bsF; rw [List.getD_eq_getElem?_getD, h]; rfl
  -- what came in
  have kept : ∀ j, j < k → bsF bs' j = .dead ∨ (bsF bs' j = s.bs j ∧ (∀ p ∈ os, p.1 ≠ j) ∧ blkV (s.bs j) = true ∧ E'.sv j = E.sv j) := by
    intro j hj
    have hjl : j < bs'.length := by show j < bs'.length; have : k ≤ bs'.length := hk; omega
    have := keptB_get hkept j bs'[j] (by rw [List.getElem?_take, if_pos hj]; simp [hjl])
    rw [Nat.zero_add] at this
    have e := hb' j bs'[j] (by simp [hjl])
    rw [e]
    exact this.imp (fun h => h) fun ⟨q1, q2, q3⟩ => ⟨q1, q2, by rw [← q1]; exact q3, by show (if j < k then _ else _) = _; rw [if_pos hj]⟩
  -- what is new
  have fresh : ∀ j (p : Nat × Nat), os[j]? = some p → ∃ e xs, rowAt s p = some (e, xs) ∧ (xs.length = p.2 ∧ p.2 ≤ 140737488355328 ∧ match s.bs p.1 with | .buf _ _ _ => oneL xs | _ => True) ∧ bsF bs' (k + j) = .vec e xs false ∧ E'.sv (k + j) = svAt (E.sv p.1) p.2 := by
    intro j p hj
    obtain ⟨e, xs, q1, q2, q3⟩ := hget j p hj
    refine ⟨e, xs, q1, q2, hb' _ _ (by simpa using q3), ?_⟩
    show (if k + j < k then _ else _) = _
    rw [if_neg (by omega)]
    have : k + j - k = j := by omega
    simp only [this, List.getD_eq_getElem?_getD, hj, Option.getD_some]
  have case : ∀ j, bsF bs' j = .none ∨ j < k ∨ ∃ i p, j = k + i ∧ os[i]? = some p := by
    intro j
    rcases Nat.lt_or_ge j k with h | h
    · exact .inr (.inl h)
    · rcases Nat.lt_or_ge j bs'.length with h' | h'
      · have : j - k < os.length := by rw [hlen]; simp; show j - k < bs'.length - k; omega
        exact .inr (.inr ⟨j - k, os[j - k], by omega, by simp [this]⟩)
      · left
        unfold bsF
        rw [List.getD_eq_getElem?_getD, List.getElem?_eq_none h']; rfl
  have inj1 : ∀ (i i' : Nat) (p p' : Nat × Nat), os[i]? = some p → os[i']? = some p' → p.1 = p'.1 → i = i' := fun i i' p p' h h' e =>
    distinct_inj hd i i' p.1 (by simp [h]) (by simp [h', e])
  have mb : ∀ j b, mblk (bsF bs') E' j = some b → ∃ q, mblk s.bs E q = some b ∧ ((j < k ∧ q = j ∧ ∀ p ∈ os, p.1 ≠ j) ∨ ∃ i p, j = k + i ∧ os[i]? = some p ∧ q = p.1) := by
    intro j b h
    rcases case j with hj | hj | ⟨i, p, rfl, hp⟩
    · unfold mblk at h; rw [hj] at h; cases h
    · rcases kept j hj with hx | ⟨h1, h2, h3, h4⟩
      · unfold mblk at h; rw [hx] at h; cases h
      · refine ⟨j, ?_, .inl ⟨hj, rfl, h2⟩⟩
        unfold mblk at h ⊢
        rw [h1, h4] at h
        exact h
    · obtain ⟨e, xs, q1, q2, q3, q4⟩ := fresh i p hp
      obtain ⟨_, g2, g3, _⟩ := row_out (E' := E') hs.bl q1 q2.1 q2.2.1 q2.2.2 q4 (bsF bs')
      refine ⟨p.1, ?_, .inr ⟨i, p, rfl, hp, rfl⟩⟩
      simp only [mblk, q3] at h
      rw [g3, ← g2]; exact h
  have rc : ∀ {c c' : Cell} {y : Value}, lenC s k os c → outC s k os c = some c' → RC s.bs w E c y → RC (bsF bs') w E' c' y := by
    intro c c' y hlc hc h
    have ref : ∀ {r n : Nat}, (match posOf r os k with | some p => n = p.2 | none => True) → (posOf r os k).map (fun p => Cell.ref p.1 p.2) = some c' → (∀ (j : Nat) (e : Nat) (xs : List (List Value)), bsF bs' j = .vec e xs false → (xs.length = n ∧ n ≤ 140737488355328 ∧ match s.bs r with | .buf _ _ _ => oneL xs | _ => True) → E'.sv j = svAt (E.sv r) n → rowAt s (r, n) = some (e, xs) → y = E'.sv j) → RC (bsF bs') w E' c' y := by
      intro r n hn hc hy
      cases hp : posOf r os k with
      | none => rw [hp] at hc; cases hc
      | some p =>
        rw [hp] at hc hn
        simp only [Option.map_some, Option.some.injEq] at hc hn
        subst hc hn
        obtain ⟨i, hpi, hi⟩ := posOf_get hp
        obtain ⟨e, xs, q1, q2, q3, q4⟩ := fresh i _ hi
        rw [← hpi] at q3 q4
        simp only [RC, q3]
        exact ⟨by have := q2.1; simp only at this; omega, fun _ => hy _ e xs q3 q2 q4 q1⟩
    cases c with
    | p x => simp only [outC, Option.some.injEq] at hc; subst hc; exact h
    | nils => simp only [outC, Option.some.injEq] at hc; subst hc; exact h
    | junk => simp only [outC, Option.some.injEq] at hc; subst hc; trivial
    | ref r n =>
      simp only [outC] at hc
      refine ref hlc.2 hc fun j e xs q3 q2 q4 q1 => ?_
      obtain ⟨_, _, _, g4, _⟩ := row_out (E' := E') hs.bl q1 q2.1 q2.2.1 q2.2.2 q4 (bsF bs')
      exact g4 y h fun e' n0' ys' he => by have := hlc.1; rw [he] at this; exact this
    | win r lo n =>
      cases lo with
      | succ lo => simp [outC] at hc
      | zero =>
        simp only [outC] at hc
        split at hc
        · rename_i e0 n0 ys hr
          refine ref hlc hc fun j e xs q3 q2 q4 q1 => ?_
          obtain ⟨_, _, _, _, g5⟩ := row_out (E' := E') hs.bl q1 q2.1 q2.2.1 q2.2.2 q4 (bsF bs')
          exact g5 y _ _ _ hr h
        · cases hc
    | _ => simp [outC] at hc
  have outOne : ∀ {c c' : Cell}, outC s k os c = some c' → ∀ {y : Value}, (match c with | .junk => True | _ => y.oneCell' = true) → (match c' with | .junk => True | _ => y.oneCell' = true) := by
    intro c c' hc y hy
    cases c with
    | p x => simp only [outC, Option.some.injEq] at hc; subst hc; exact hy
    | nils => simp only [outC, Option.some.injEq] at hc; subst hc; exact hy
    | junk => simp only [outC, Option.some.injEq] at hc; subst hc; trivial
    | ref r n =>
      simp only [outC, Option.map_eq_some_iff] at hc
      obtain ⟨j, _, rfl⟩ := hc
      exact hy
    | win r lo n =>
      cases lo with
      | succ lo => simp [outC] at hc
      | zero =>
        simp only [outC] at hc
        split at hc
        · simp only [Option.map_eq_some_iff] at hc; obtain ⟨j, _, rfl⟩ := hc; exact hy
        · cases hc
    | _ => simp [outC] at hc
  have rcs : ∀ {cs cs' : List Cell} {us : List Value}, lenCs s k os cs → outCs s k os cs = some cs' → A2 (RC1 s.bs w E) cs us → A2 (RC1 (bsF bs') w E') cs' us := by
    intro cs
    induction cs with
    | nil => intro cs' us _ hc h; simp only [outCs, Option.some.injEq] at hc; subst hc; cases us <;> exact h
    | cons c cs ih =>
      intro cs' us hl hc h
      cases us with
      | nil => exact h.elim
      | cons u us =>
        simp only [outCs] at hc
        split at hc
        · rename_i x l q1 q2
          cases hc
          exact ⟨⟨rc hl.1 q1 h.1.1, h.1.2⟩, ih hl.2 q2 h.2⟩
        · cases hc
  have rws : ∀ {l l' : List W1} {us : List Value}, lenWs s k os l → outWs s k os l = some l' → A2 (RW s.bs w E) l us → A2 (RW (bsF bs') w E') l' us := by
    intro l
    induction l with
    | nil => intro l' us _ hc h; simp only [outWs, Option.some.injEq] at hc; subst hc; cases us <;> exact h
    | cons c l ih =>
      intro l' us hl hc h
      cases us with
      | nil => exact h.elim
      | cons u us =>
        simp only [outWs] at hc
        split at hc
        · rename_i x l0 q1 q2
          cases hc
          cases c with
          | one c =>
            refine ⟨?_, ih hl.2 q2 h.2⟩
            simp only [outW, Option.map_eq_some_iff] at q1
            obtain ⟨c', q1, rfl⟩ := q1
            exact ⟨rc hl.1 q1 h.1.1, outOne q1 h.1.2⟩
          | agg cs =>
            refine ⟨?_, ih hl.2 q2 h.2⟩
            simp only [outW, Option.map_eq_some_iff] at q1
            obtain ⟨c', q1, rfl⟩ := q1
            obtain ⟨ar, e, hA⟩ := h.1
            exact ⟨ar, e, rcs hl.1 q1 hA⟩
        · cases hc
  refine ⟨_, results_run h3, E', hs.fr, ?_, ⟨fun j => ?_, fun j j' b h h' => ?_, fun j b h => ?_⟩, ?_, ?_⟩
  · have hA := rws hlens hout h2
    match m', vs, hA with
    | [], [], _ => exact ⟨_, rfl, trivial⟩
    | [x], [v], h2 => exact h2.1
    | x :: x' :: m, v :: v' :: vs, h2 => exact ⟨_, by simp, h2⟩
  · rcases case j with hj | hj | ⟨i, p, rfl, hp⟩
    · rw [hj]; trivial
    · rcases kept j hj with hx | ⟨h1, h2, h3, h4⟩
      · rw [hx]; trivial
      · rw [h1]
        have hB := hs.bl.blk j
        cases hb : s.bs j with
        | dead => trivial
        | vec e xs fz =>
          rw [hb] at hB
          unfold RB at hB ⊢
          rw [h4]
          exact hB
        | _ => rw [hb] at h3; cases h3
    · obtain ⟨e, xs, q1, q2, q3, q4⟩ := fresh i p hp
      rw [q3]
      exact (row_out (E' := E') hs.bl q1 q2.1 q2.2.1 q2.2.2 q4 (bsF bs')).1
  · obtain ⟨q, g1, g2⟩ := mb j b h
    obtain ⟨q', g3, g4⟩ := mb j' b h'
    have := hs.bl.inj q q' b g1 g3
    subst this
    rcases g2 with ⟨a1, rfl, a3⟩ | ⟨i, p, rfl, a2, rfl⟩ <;> rcases g4 with ⟨c1, c2, c3⟩ | ⟨i', p', rfl, c2, c3⟩
    · exact c2
    · exact absurd c3.symm (a3 p' (List.mem_of_getElem? c2))
    · exact absurd c2 (c3 p (List.mem_of_getElem? a2))
    · rw [inj1 i i' p p' a2 c2 c3]
  · obtain ⟨q, g1, _⟩ := mb j b h
    exact hs.bl.mt q b g1
  · intro j hj
    have h0 := hs.hist j (by rw [hX]; exact hj)
    have hjk : j < k := by
      rcases Nat.lt_or_ge j k with h | h
      · exact h
      · exact absurd (by unfold bsF; rw [List.getD_eq_getElem?_getD, List.getElem?_eq_none h]; rfl) hj
    rcases kept j hjk with hx | ⟨h1, h2, h3, h4⟩
    · rw [hx]; trivial
    · rw [h1]
      rw [hX] at h0
      cases hb : s.bs j with
      | dead => trivial
      | vec e xs fz => rw [hb] at h0; simp only at h0 ⊢; rw [h4]; exact h0
      | _ => rw [hb] at h3; cases h3
  · intro j b h
    obtain ⟨q, g1, _⟩ := mb j b h
    exact (hs.own q b g1).imp (fun h => ⟨q, by rw [← hX]; exact h.2⟩) fun h => h
end
end Go.Fw
/- A call that the evaluator has followed is one that comes to that end. -/
namespace Go.Fw
open Go Go.RowKit

section
variable {P : Program} {G : Cfg} (ht : TOK P G.T)
include ht

omit ht in
theorem start_sim {w : World} {E : Env} {ar : List AV} {vs : Array Value} {bs0 : Nat → Blk} {k : Nat} (n nx : Nat) (hA : A2 (RA bs0 w E) ar vs.toList) (hbl : Blocks G.T bs0 w E) (hlt : ∀ b, E.F b → b < w.heap.size)
    (hk : ∀ r, bs0 r ≠ .none → r < k) :
    Sim G.T ⟨⟨w, E.F, fun b => ∃ r, mblk bs0 E r = some b⟩, bs0, E, []⟩ { tm := fun n => ar.getD n .junk, bs := bs0, nx := nx, nt := max ar.length n, lo := k } { tmps := vs ++ Array.replicate (n - vs.size) undef, defers := [] } w E := by
  have hlen := hA.length
  exact
    { defers := rfl
      size := by simp at hlen ⊢; omega
      tm := fun d => by
        have := init_tm hA (n - vs.size) d
        have e : (vs ++ Array.replicate (n - vs.size) undef).getD d undef = (vs.toList ++ List.replicate (n - vs.size) undef).getD d undef := by
          simp [← Array.getElem?_toList]
        rw [e]; exact this
      bl := hbl
      own := fun r b h => .inl ⟨hk r (fun e => by simp [mblk, e] at h), h⟩
      fr := { flt := fun b hb => ⟨hlt b hb, .inl hb⟩, fge := fun _ h => h, os := rfl, tape := rfl, output := rfl, grow := Nat.le_refl _, keep := fun _ _ _ => rfl }
      hist := BExt.refl _ _
      old := hk
      mo := fun r b h => ⟨r, h⟩ }

theorem Jn_sound (hm : P.follows .mixedOrders = true) (hji : SoundJ P G.T G.ji) {C : CallRel} (hC : ∀ f ar bs out bs', C f ar bs out bs' → Sound P G.T f ar bs out bs') : ∀ n, SoundJ P G.T (Jn G P C n)
  | 0 => fun _ _ _ _ _ h => h.elim
  | n + 1 => by
    rintro f ar s K Pp (⟨fn, c, hf, ⟨hb, hn⟩, hw⟩ | hj)
    rotate_left
    · exact hji _ _ _ _ _ hj
    refine ⟨⟨fn, c, hf, hb, hn⟩, fun w E vs hA hbl hlt htp => ?_⟩
    have hk : ∀ r, s.bs r ≠ .none → r < s.nx := fun r h => by
      rcases Nat.lt_or_ge r s.nx with h' | h'
      · exact h'
      · exact absurd (htp r h') h
    have hs := start_sim (G := G) (k := s.nx) fn.ntmps s.nx hA hbl hlt hk
    refine calls_of_wpK hf hb (wpK_mono (code_soundN ht hm hC (Jn_sound hm hji hC n) (Jn_self n) c hw htp hs) ?_)
    have fin : ∀ (a' : Act) (w' : World) (s' : St) (E' : Env), resK G s' fn.results.toList (fun l => K (tupOf l) s') → Top s' → Sim G.T ⟨⟨w, E.F, fun b => ∃ r, mblk s.bs E r = some b⟩, s.bs, E, []⟩ s' a' w' E' →
        a'.defers = [] ∧ ∃ v, (results fn a'.tmps).run P w' = .ok v w' ∧ ((∃ s' E', Frame ⟨w, E.F, inM s E⟩ w' E'.F ∧ BExt s.bs E s'.bs E' ∧ Blocks G.T s'.bs w' E' ∧ (∀ r, s'.nx ≤ r → s'.bs r = .none) ∧
        (∀ r b, mblk s'.bs E' r = some b → (r < s.nx ∧ mblk s.bs E r = some b) ∨ w.heap.size ≤ b) ∧ ∃ r v', Ending.returned v = .returned v' ∧ RA s'.bs w' E' r v' ∧ K r s') ∨
      ∃ v' F', Ending.returned v = .panicked [{ v := v', recovered := false }] ∧ Pp v' ∧ Frame ⟨w, E.F, inM s E⟩ w' F') := by
      intro a' w' s' E' h1 h0 hs'
      obtain ⟨m, vs', g1, g2, g3⟩ := resK_sound ht hs' h1
      refine ⟨hs'.defers, _, results_run g3, .inl ⟨s', E', hs'.fr, hs'.hist, hs'.bl, h0, fun r b h => (hs'.own r b h).imp (fun h => ⟨hk r (fun e => by have := h.2; simp [mblk, e] at this), h.2⟩) fun h => h, tupOf m, _, rfl, ?_, g1⟩⟩
      match m, vs', g2 with
      | [], [], _ => exact ⟨_, rfl, trivial⟩
      | [x], [v], h2 => exact h2.1
      | x :: x' :: m, v :: v' :: vs, h2 => exact ⟨_, by simp, h2⟩
    intro e a' w' hq
    cases e with
    | normal => obtain ⟨s', E', h1, h0, h2⟩ := hq; exact fin _ _ _ _ h1 h0 h2
    | ret => obtain ⟨s', E', h1, h0, h2⟩ := hq; exact fin _ _ _ _ h1 h0 h2
    | panic ch =>
      obtain ⟨v, s', F', rfl, h1, h2, h3⟩ := hq
      exact ⟨h2, .inr ⟨v, F', rfl, h1, h3⟩⟩
    | exit id => obtain ⟨s', E', h1, h2⟩ := hq; exact h1.elim
    | goto l => exact hq.elim
    | outgrown => exact hq.elim

theorem stepO_sound (hm : P.follows .mixedOrders = true) {C : CallRel} {J : Inl} (hC : ∀ f ar bs out bs', C f ar bs out bs' → Sound P G.T f ar bs out bs') (hJ : SoundJ P G.T J) (hJm : InlMono J J) {f : FuncId} {ar : List AV} {out : Out} {bs bs' : List Blk} {fn : Func} {c : Code}
    (hf : P.funcs[f]? = some fn) (hb : fn.body = some c) (hn : (fn.name == "runtime.NumGoroutine") = false) (hw : wpC G C J c (bodyO G fn bs.length out bs') (initO ar bs (max ar.length fn.ntmps))) : Sound P G.T f ar bs out bs' := by
  refine ⟨⟨fn, c, hf, hb, hn⟩, fun w E vs hA hbl hlt => ?_⟩
  have hk : ∀ r, bsF bs r ≠ .none → r < bs.length := fun r h => by
    rcases Nat.lt_or_ge r bs.length with h' | h'
    · exact h'
    · exact absurd (by unfold bsF; rw [List.getD_eq_getElem?_getD, List.getElem?_eq_none h']; rfl) h
  have hs := start_sim (G := G) (k := bs.length) fn.ntmps bs.length hA hbl hlt hk
  have htp : Top (initO ar bs (max ar.length fn.ntmps)) := fun r hr => by
    show bsF bs r = .none
    unfold bsF; rw [List.getD_eq_getElem?_getD, List.getElem?_eq_none hr]; rfl
  refine calls_of_wpK hf hb (wpK_mono (code_soundN ht hm hC hJ hJm c hw htp hs) ?_)
  cases out with
  | pan v0 =>
    intro e a' w' hq
    cases e with
    | normal => obtain ⟨s', E', ⟨r, s0, h1, _⟩, h2⟩ := hq; cases h1
    | ret => obtain ⟨s', E', ⟨r, s0, h1, _⟩, h2⟩ := hq; cases h1
    | panic ch =>
      obtain ⟨v, s', F', rfl, h1, h2, h3⟩ := hq
      cases h1
      exact ⟨h2, ⟨E.σ, E.sv, F'⟩, h3, rfl⟩
    | exit id => obtain ⟨s', E', h1, h2⟩ := hq; exact h1.elim
    | goto l => exact hq.elim
    | outgrown => exact hq.elim
  | ret r0 =>
    have fin : ∀ (a' : Act) (w' : World) (s' : St) (E' : Env), (∃ r s0, Out.ret r0 = .ret r ∧ le G.T s0 s' ∧ retO G fn bs.length r bs' s0) → Sim G.T ⟨⟨w, E.F, fun b => ∃ r, mblk (bsF bs) E r = some b⟩, bsF bs, E, []⟩ s' a' w' E' →
        a'.defers = [] ∧ ∃ v, (results fn a'.tmps).run P w' = .ok v w' ∧ ∃ E1 : Env, Frame ⟨w, E.F, fun b => ∃ r, mblk (bsF bs) E r = some b⟩ w' E1.F ∧
          ∃ v', Ending.returned v = .returned v' ∧ RA (bsF bs') w' E1 r0 v' ∧ Blocks G.T (bsF bs') w' E1 ∧ BExt (bsF bs) E (bsF bs') E1 ∧
              ∀ r b, mblk (bsF bs') E1 r = some b → (∃ q, mblk (bsF bs) E q = some b) ∨ w.heap.size ≤ b := by
      rintro a' w' s' E' ⟨r, s0, h0, hl, hr⟩ hs'
      cases h0
      obtain ⟨E2, hs2⟩ := hs'.weak hl
      obtain ⟨v, h1, E1, h2, h3, h4, h5, h6⟩ := retO_sound ht (bs := bs) rfl hs2 hr
      exact ⟨hs'.defers, v, h1, E1, h2, v, rfl, h3, h4, h5, h6⟩
    intro e a' w' hq
    cases e with
    | normal =>
      obtain ⟨s', E', h1, _, h2⟩ := hq
      exact fin _ _ _ _ h1 h2
    | ret =>
      obtain ⟨s', E', h1, _, h2⟩ := hq
      exact fin _ _ _ _ h1 h2
    | panic ch =>
      obtain ⟨v, s', F', rfl, h1, h2, h3⟩ := hq
      cases h1
    | exit id => obtain ⟨s', E', h1, h2⟩ := hq; exact h1.elim
    | goto l => exact hq.elim
    | outgrown => exact hq.elim

theorem step_sound (hm : P.follows .mixedOrders = true) (hji : SoundJ P G.T G.ji) {I C : CallRel} (hI : ∀ f ar bs out bs', I f ar bs out bs' → Sound P G.T f ar bs out bs')
    (hC : ∀ f ar bs out bs', C f ar bs out bs' → Sound P G.T f ar bs out bs') : ∀ f ar bs out bs', step G P I C f ar bs out bs' → Sound P G.T f ar bs out bs' := by
  rintro f ar bs out bs' (h | ⟨rfl, rfl, fn, c, hf, ⟨hb, hn⟩, n, hw⟩ | ⟨fn, c, hf, ⟨hb, hn⟩, n, hw⟩)
  · exact hI _ _ _ _ _ h
  rotate_left
  · exact stepO_sound ht hm hC (Jn_sound ht hm hji hC n) (Jn_self n) hf hb hn hw
  refine ⟨⟨fn, c, hf, hb, hn⟩, fun w E vs hA hbl hlt => ?_⟩
  rw [bsF_nil] at hA hbl ⊢
  have hM : (fun b => ∃ r, mblk (fun _ => Blk.none) E r = some b) = fun _ => False := by
    funext b; simp [mblk]
  have hs := start_sim (G := G) (bs0 := fun _ => .none) (k := 0) fn.ntmps 0 hA hbl hlt (fun r h => absurd rfl h)
  have htp : Top (initS ar (max ar.length fn.ntmps)) := fun r _ => rfl
  refine calls_of_wpK hf hb (wpK_mono (code_soundN ht hm hC (Jn_sound ht hm hji hC n) (Jn_self n) c hw htp hs) ?_)
  cases out with
  | pan v0 =>
    intro e a' w' hq
    cases e with
    | normal => obtain ⟨s', E', ⟨r, h1, _⟩, h2⟩ := hq; cases h1
    | ret => obtain ⟨s', E', ⟨r, h1, _⟩, h2⟩ := hq; cases h1
    | panic ch =>
      obtain ⟨v, s', F', rfl, h1, h2, h3⟩ := hq
      cases h1
      exact ⟨h2, ⟨E.σ, E.sv, F'⟩, h3, rfl⟩
    | exit id => obtain ⟨s', E', h1, h2⟩ := hq; exact h1.elim
    | goto l => exact hq.elim
    | outgrown => exact hq.elim
  | ret r0 =>
    have fin : ∀ (a' : Act) (w' : World) (s' : St) (E' : Env), (∃ r, Out.ret r0 = .ret r ∧ retQ G fn r s') → Sim G.T ⟨⟨w, E.F, fun b => ∃ r, mblk (fun _ => Blk.none) E r = some b⟩, fun _ => .none, E, []⟩ s' a' w' E' →
        a'.defers = [] ∧ ∃ v, (results fn a'.tmps).run P w' = .ok v w' ∧ ∃ E1 : Env, Frame ⟨w, E.F, fun b => ∃ r, mblk (fun _ => Blk.none) E r = some b⟩ w' E1.F ∧
          ∃ v', Ending.returned v = .returned v' ∧ RA (fun _ => .none) w' E1 r0 v' ∧ Blocks G.T (fun _ => .none) w' E1 ∧ BExt (fun _ => .none) E (fun _ => .none) E1 ∧
              ∀ r b, mblk (fun _ => Blk.none) E1 r = some b → (∃ q, mblk (fun _ => Blk.none) E q = some b) ∨ w.heap.size ≤ b := by
      rintro a' w' s' E' ⟨r, h0, hr⟩ hs'
      cases h0
      obtain ⟨v, h1, E1, h2, h3⟩ := ret_sound ht rfl hs' hr
      exact ⟨hs'.defers, v, h1, E1, h2, v, rfl, h3, ⟨fun _ => trivial, fun r r' b h => by simp [mblk] at h, fun r b h => by simp [mblk] at h⟩, BExt.ofNone _ _ _, fun r b h => by simp [mblk] at h⟩
    intro e a' w' hq
    cases e with
    | normal =>
      obtain ⟨s', E', h1, _, h2⟩ := hq
      exact fin _ _ _ _ h1 h2
    | ret =>
      obtain ⟨s', E', h1, _, h2⟩ := hq
      exact fin _ _ _ _ h1 h2
    | panic ch =>
      obtain ⟨v, s', F', rfl, h1, h2, h3⟩ := hq
      cases h1
    | exit id => obtain ⟨s', E', h1, h2⟩ := hq; exact h1.elim
    | goto l => exact hq.elim
    | outgrown => exact hq.elim

theorem PCall_sound (hm : P.follows .mixedOrders = true) (hji : SoundJ P G.T G.ji) {I : CallRel} (hI : ∀ f ar bs out bs', I f ar bs out bs' → Sound P G.T f ar bs out bs') :
    ∀ f ar bs out bs', PCall G P I f ar bs out bs' → Sound P G.T f ar bs out bs' :=
  fun f ar bs out bs' h => h (Sound P G.T) (step_sound ht hm hji hI fun _ _ _ _ _ h => h)
end
end Go.Fw
/- Rules: how a call is shown. -/
namespace Go.Fw
open Go Go.RowKit

theorem PCall_step {G : Cfg} {P : Program} {I : CallRel} {f ar bs out bs'} (h : step G P I (PCall G P I) f ar bs out bs') : PCall G P I f ar bs out bs' := by
  intro R hR
  refine hR _ _ _ _ _ ?_
  have hC : ∀ f a b o b', PCall G P I f a b o b' → R f a b o b' := fun f a b o b' h => h R hR
  rcases h with h | ⟨e1, e2, fn, c, h1, h2, n, h3⟩ | ⟨fn, c, h1, h2, n, h3⟩
  · exact .inl h
  · exact .inr (.inl ⟨e1, e2, fn, c, h1, h2, n, wpC_mono hC (Jn_mono hC n) c (fun _ _ h => h) h3⟩)
  · exact .inr (.inr ⟨fn, c, h1, h2, n, wpC_mono hC (Jn_mono hC n) c (fun _ _ h => h) h3⟩)
theorem PCall_I {G : Cfg} {P : Program} {I : CallRel} {f ar bs out bs'} (h : I f ar bs out bs') : PCall G P I f ar bs out bs' := PCall_step (.inl h)
theorem pcall_intro {G : Cfg} {P : Program} {I : CallRel} {f : FuncId} {fn : Func} {c : Code} {ar : List AV} {out : Out} (hf : P.funcs[f]? = some fn) (hb : fn.body = some c) (hn : (fn.name == "runtime.NumGoroutine") = false)
    (h : wpC G (PCall G P I) (Jn G P (PCall G P I) 4) c (bodyQ G fn out) (initS ar (max ar.length fn.ntmps))) : PCall G P I f ar [] out [] := PCall_step (.inr (.inl ⟨rfl, rfl, fn, c, hf, ⟨hb, hn⟩, 4, h⟩))
theorem pcall_own {G : Cfg} {P : Program} {I : CallRel} {f : FuncId} {fn : Func} {c : Code} {ar : List AV} {out : Out} {bs bs' : List Blk} (hf : P.funcs[f]? = some fn) (hb : fn.body = some c) (hn : (fn.name == "runtime.NumGoroutine") = false)
    (h : wpC G (PCall G P I) (Jn G P (PCall G P I) 4) c (bodyO G fn bs.length out bs') (initO ar bs (max ar.length fn.ntmps))) : PCall G P I f ar bs out bs' := PCall_step (.inr (.inr ⟨fn, c, hf, ⟨hb, hn⟩, 4, h⟩))
/-- A call that is walked into. -/
theorem wpInl_i {G : Cfg} {P : Program} {C : CallRel} {n : Nat} {f : FuncId} {fn : Func} {c : Code} {ar : List AV} {s : St} {K : AV → St → Prop} {Pp : Value → Prop} (hf : P.funcs[f]? = some fn) (hb : fn.body = some c) (hn : (fn.name == "runtime.NumGoroutine") = false)
    (h : wpC G C (Jn G P C n) c (bodyI G fn K Pp) (initI ar s (max ar.length fn.ntmps))) : wpInl (Jn G P C (n + 1)) f ar s K Pp := ⟨.inl ⟨fn, c, hf, ⟨hb, hn⟩, h⟩⟩
/-- A call that is told from outside. -/
theorem wpInl_j {G : Cfg} {P : Program} {C : CallRel} {n : Nat} {f : FuncId} {ar : List AV} {s : St} {K : AV → St → Prop} {Pp : Value → Prop} (h : G.ji f ar s K Pp) : wpInl (Jn G P C (n + 1)) f ar s K Pp := ⟨.inr h⟩

/-! ### Where a walk stops -/
section
variable {G : Cfg} {C : CallRel} {J : Inl}
theorem wpB_i {e : Bool} {K : Bool → Prop} (h : K e) : wpB e K := ⟨fun b hb => hb ▸ h⟩
theorem wpB_t {e : Bool} {K : Bool → Prop} (he : e = true) (h : K true) : wpB e K := ⟨fun b hb => by rw [← hb, he]; exact h⟩
theorem wpB_f {e : Bool} {K : Bool → Prop} (he : e = false) (h : K false) : wpB e K := ⟨fun b hb => by rw [← hb, he]; exact h⟩
/-- A question that is left open: both answers. -/
theorem wpB_c {e : Bool} {K : Bool → Prop} (ht : e = true → K true) (hf : e = false → K false) : wpB e K := ⟨fun b hb => by
  cases b
  · exact hf hb
  · exact ht hb⟩
theorem wpN_i {e : Int} {K : Int → Prop} (h : K e) : wpN e K := ⟨fun b hb => hb ▸ h⟩
theorem wpN_e {e n : Int} {K : Int → Prop} (he : e = n) (h : K n) : wpN e K := ⟨fun b hb => by rw [← hb, he]; exact h⟩
theorem wpLen_i {dr : Bool} {n : Nat} {K : Prop} (h : K) : wpLen dr n K := ⟨fun _ => h⟩
theorem wpLen_b {n : Nat} {K : Prop} (h : n ≤ 140737488355328 → K) : wpLen false n K := ⟨fun hq => h (hq rfl)⟩
theorem wpSide_i {p K : Prop} (hp : p) (h : K) : wpSide p K := ⟨hp, h⟩
theorem wpIdx_i {xs : List (List Value)} {i : Int} {k : Nat} {K : List Value → Prop} {n : Nat} {es : List Value} (hi : i = n) (h : xs[n]? = some es) (hk : es.length = k) (hK : K es) : wpIdx xs i k K :=
  ⟨⟨es, by subst hi; omega, by subst hi; simpa using h, hk, hK⟩⟩
theorem wpCall_r {f : FuncId} {ar : List AV} {r : AV} {K : AV → Prop} {Pp : Value → Prop} (h : C f ar [] (.ret r) []) (hK : K r) : wpCall C f ar K Pp := ⟨⟨.ret r, h, hK⟩⟩
theorem wpCall_p {f : FuncId} {ar : List AV} {v : Value} {K : AV → Prop} {Pp : Value → Prop} (h : C f ar [] (.pan v) []) (hP : Pp v) : wpCall C f ar K Pp := ⟨⟨.pan v, h, hP⟩⟩
/-- A call that answers with a truth value that is left open. -/
theorem wpCall_b {f : FuncId} {ar : List AV} {b : Bool} {K : AV → Prop} {Pp : Value → Prop} (h : C f ar [] (.ret (.bool b)) []) (ht : b = true → K (.bool true)) (hf : b = false → K (.bool false)) : wpCall C f ar K Pp :=
  ⟨⟨.ret (.bool b), h, by cases b; exact hf rfl; exact ht rfl⟩⟩
theorem wpRegD_i {ops : Array Oper} {X : St → Prop} {Y : St → Nat → List Nat → List Nat → Prop} {s : St} (h1 : staticOK ops = true) (h : X s) : wpRegD ops X Y s := ⟨_, .inl rfl, .inl ⟨h1, h⟩⟩
/-- A row is fixed ahead of a drawn region. -/
theorem wpRegF_i {ops : Array Oper} {X : St → Prop} {Y : St → Nat → List Nat → List Nat → Prop} {s : St} (r : Nat) (h0 : fixQ s r = true) (h1 : staticOK ops = true) (h : X (fixS s r)) : wpRegD ops X Y s := ⟨_, .inr ⟨r, h0, rfl⟩, .inl ⟨h1, h⟩⟩
/-- The last operations, from a place on, in their order. -/
theorem wpRegS_i {ops : Array Oper} {X : St → Prop} {Y : St → Nat → List Nat → List Nat → Prop} {s : St} (m : Nat) (f l : List Nat) (h1 : tailOK ops m f l = true) (h2 : staticOK (ops.extract 0 m) = true) (h : Y s m f l) : wpRegD ops X Y s := ⟨_, .inl rfl, .inr ⟨m, f, l, h1, h2, h⟩⟩
theorem wpRegFS_i {ops : Array Oper} {X : St → Prop} {Y : St → Nat → List Nat → List Nat → Prop} {s : St} (r m : Nat) (f l : List Nat) (h0 : fixQ s r = true) (h1 : tailOK ops m f l = true) (h2 : staticOK (ops.extract 0 m) = true) (h : Y (fixS s r) m f l) : wpRegD ops X Y s := ⟨_, .inr ⟨r, h0, rfl⟩, .inr ⟨m, f, l, h1, h2, h⟩⟩

/-- A loop: the state at its head says no more than the picture, and each round leads to a smaller one, or out. -/
theorem loop_rule {ι : Type} {T : Nat → TI} {body : (Ex → St → Prop) → St → Prop} {Q : Ex → St → Prop} {s : St} (mk : ι → St) (inv : ι → Prop) (μ : ι → Nat) (i0 : ι)
    (h0 : le T (mk i0) s) (hi : inv i0)
    (hb : ∀ i, inv i → ∀ next : St → Prop, (∀ j s', inv j → μ j < μ i → le T (mk j) s' → next s') → body (fun e s => match e with | .normal => next s | e => Q e s) (mk i)) : wpLoop T body Q s := by
  refine ⟨fun I hI => ?_⟩
  have key : ∀ n i s', μ i = n → inv i → le T (mk i) s' → I s' := by
    intro n
    induction n using Nat.strongRecOn with
    | _ n ih =>
      intro i s' hn hi hl
      refine hI s' (mk i) (.inr hl) ?_
      exact hb i hi I fun j s'' hj hlt hl' => ih (μ j) (hn ▸ hlt) j s'' rfl hj hl'
  exact key _ i0 s rfl hi h0

/-- One round more. -/
theorem loop_unroll {T : Nat → TI} {body : (Ex → St → Prop) → St → Prop} {Q : Ex → St → Prop} {s : St} (hm : ∀ (K K' : Ex → St → Prop) s, (∀ e s, K e s → K' e s) → body K s → body K' s)
    (h : body (fun e s => match e with | .normal => wpLoop T body Q s | e => Q e s) s) : wpLoop T body Q s :=
  ⟨fun I hI => hI s s (.inl rfl) (hm _ _ s (fun e s h => by
    cases e with
    | normal => exact h.h I hI
    | _ => exact h) h)⟩
theorem loop_unroll' {G : Cfg} {C : CallRel} {P : Program} {n : Nat} {c : Code} {T : Nat → TI} {Q : Ex → St → Prop} {s : St}
    (h : wpC G C (Jn G P C n) c (fun e s => match e with | .normal => wpLoop T (fun Q s => wpC G C (Jn G P C n) c Q s) Q s | e => Q e s) s) : wpLoop T (fun Q s => wpC G C (Jn G P C n) c Q s) Q s :=
  loop_unroll (fun _ _ _ h => wpC_mono (fun _ _ _ _ _ h => h) (Jn_self n) c h) h

/-- A state by its lists. -/
def look {α : Type} (d : α) : List (Nat × α) → Nat → α
  | [], _ => d
  | (k, v) :: l, n => bif Nat.beq n k then v else look d l n
def lookB (lo : Nat) : List (Nat × Blk) → Nat → Blk
  | [], n => bif Nat.blt n lo then .dead else .none
  | (k, v) :: l, n => bif Nat.beq n k then v else lookB lo l n
def mkS (tm : List (Nat × AV)) (bs : List (Nat × Blk)) (nx nt lo : Nat) : St := { tm := look .junk tm, bs := lookB lo bs, nx := nx, nt := nt, lo := lo }
def newRowT (T : Nat → TI) (lo : Nat) (bs : List (Nat × Blk)) (s : St) (d r : Nat) : Prop :=
  s.tm d = .one .nils ∧ s.bs r = .none ∧ ∃ e, lookB lo bs r = .vec e [] false ∧ 0 < (T e).size
def chkT (T : Nat → TI) (lo : Nat) (bs : List (Nat × Blk)) (s : St) : List (Nat × AV) → Prop
  | [] => True
  | (d, v) :: l => ((v = s.tm d ∧ issA (lookB lo bs) v = true) ∨ ∃ r, v = .one (.ref r 0) ∧ newRowT T lo bs s d r) ∧ chkT T lo bs s l
def chkB (T : Nat → TI) (lo : Nat) (bs : List (Nat × Blk)) (s : St) : List (Nat × Blk) → Prop
  | [] => True
  | (r, b) :: l => ((b = s.bs r ∧ issB (lookB lo bs) b = true) ∨ (s.bs r = .none ∧ ∃ e, b = .vec e [] false ∧ 0 < (T e).size)) ∧ chkB T lo bs s l
theorem look_chkT {T : Nat → TI} {bs : List (Nat × Blk)} {s : St} (nx nt lo : Nat) (tm0 : List (Nat × AV)) : ∀ {tm : List (Nat × AV)}, chkT T lo bs s tm → ∀ d,
    look .junk tm d = .junk ∨ (look .junk tm d = s.tm d ∧ issA (lookB lo bs) (look .junk tm d) = true) ∨ (∃ r, look .junk tm d = .one (.ref r 0) ∧ s.tm d = .one .nils ∧ newRowS T (mkS tm0 bs nx nt lo) s r)
  | [], _, d => .inl rfl
  | (k, v) :: tm, h, d => by
    unfold look
    cases hd : Nat.beq d k with
    | false => exact look_chkT nx nt lo tm0 h.2 d
    | true =>
      have := Nat.eq_of_beq_eq_true hd
      subst this
      simp only [cond_true]
      rcases h.1 with h1 | ⟨r, h1, h2, h3, e, h4, h5⟩
      · exact .inr (.inl h1)
      · exact .inr (.inr ⟨r, h1, h2, h3, e, h4, h5⟩)
theorem look_chkB {T : Nat → TI} {bs0 : List (Nat × Blk)} {lo : Nat} {s : St} : ∀ {bs : List (Nat × Blk)}, chkB T lo bs0 s bs → ∀ r, (lookB lo bs r = .none ∨ lookB lo bs r = .dead ∨ (lookB lo bs r = s.bs r ∧ issB (lookB lo bs0) (lookB lo bs r) = true) ∨
      (s.bs r = .none ∧ ∃ e, lookB lo bs r = .vec e [] false ∧ 0 < (T e).size))
  | [], _, r => by
    unfold lookB
    cases Nat.blt r lo
    · exact .inl rfl
    · exact .inr (.inl rfl)
  | (k, b) :: bs, h, r => by
    unfold lookB
    cases hd : Nat.beq r k with
    | false => exact look_chkB h.2 r
    | true =>
      have := Nat.eq_of_beq_eq_true hd
      subst this
      simp only [cond_true]
      rcases h.1 with h1 | h1
      · exact .inr (.inr (.inl h1))
      · exact .inr (.inr (.inr h1))
theorem lookB_kp {T : Nat → TI} {bs0 : List (Nat × Blk)} {lo : Nat} {s : St} : ∀ {bs : List (Nat × Blk)}, chkB T lo bs0 s bs → ∀ r, r < lo → lookB lo bs r = .none → s.bs r = .none
  | [], _, r, hr, h => by
    unfold lookB at h
    have : Nat.blt r lo = true := Nat.ble_eq_true_of_le hr
    rw [this] at h; cases h
  | (k, b) :: bs, hc, r, hr, h => by
    unfold lookB at h
    cases hd : Nat.beq r k with
    | false => rw [hd] at h; exact lookB_kp hc.2 r hr h
    | true =>
      have := Nat.eq_of_beq_eq_true hd
      subst this
      rw [hd] at h
      simp only [cond_true] at h
      rcases hc.1 with h1 | ⟨h1, _⟩
      · rw [← h1.1]; exact h
      · exact h1
def topB (bs : List (Nat × Blk)) (nx lo : Nat) : Bool := (bs.all fun p => Nat.blt p.1 nx) && Nat.ble lo nx
theorem lookB_top {nx lo : Nat} : ∀ {bs : List (Nat × Blk)}, topB bs nx lo = true → ∀ r, nx ≤ r → lookB lo bs r = .none
  | [], h, r, hr => by
    simp only [topB, Bool.and_eq_true] at h
    have h1 := Nat.le_of_ble_eq_true h.2
    unfold lookB
    have : Nat.blt r lo = false := by
      cases hq : Nat.blt r lo
      · rfl
      · have h2 : r < lo := Nat.le_of_ble_eq_true hq
        omega
    rw [this]; rfl
  | (k, b) :: bs, h, r, hr => by
    simp only [topB, List.all_cons, Bool.and_eq_true] at h
    have h1 : k < nx := Nat.le_of_ble_eq_true h.1.1
    unfold lookB
    have : Nat.beq r k = false := by
      cases hq : Nat.beq r k
      · rfl
      · have := Nat.eq_of_beq_eq_true hq; omega
    rw [this]
    exact lookB_top (by simp only [topB, Bool.and_eq_true]; exact ⟨h.1.2, h.2⟩) r hr
theorem le_mkS {T : Nat → TI} {tm : List (Nat × AV)} {bs : List (Nat × Blk)} {nx nt lo : Nat} {s : St} (h1 : chkT T lo bs s tm) (h2 : chkB T lo bs s bs) (h3 : nt = s.nt) (h4 : lo = s.lo) (h5 : topB bs nx lo = true := by rfl) : le T (mkS tm bs nx nt lo) s :=
  ⟨look_chkT nx nt lo tm h1, look_chkB h2, h3, h4, lookB_kp h2, lookB_top h5⟩
/-- A row that is not there yet, at the head of a loop. -/
theorem newT {T : Nat → TI} {lo : Nat} {bs : List (Nat × Blk)} {s : St} {d r e : Nat} (h1 : s.tm d = .one .nils) (h2 : s.bs r = .none) (h3 : lookB lo bs r = .vec e [] false) (h4 : 0 < (T e).size) : newRowT T lo bs s d r := ⟨h1, h2, e, h3, h4⟩
theorem retI {G : Cfg} {fn : Func} {s : St} {r : AV} (h : retQ G fn r s) : bodyQ G fn (.ret r) .ret s := ⟨r, rfl, h⟩
end
end Go.Fw
