/- A part of the proof of Rows.ShopBackSaid: what ShopBack answers, whatever the arguments; it stands under no condition. -/
import Derived.Test.YtdehaflkiobnlaaGreatBack01
import Derived.Laws.Strings
import Derived.Lib.AppendStr
import Derived.Laws.Slices
import Derived.Laws.Small
import Derived.Great.BuildSlice
set_option linter.unusedVariables false
set_option linter.unusedSimpArgs false
set_option linter.unusedSectionVars false
set_option linter.deprecated false
/- Operations that give a value and turn no memory. -/
namespace Go.Fw
open Go Go.RowKit

theorem addr_add (b o j : Nat) : (⟨b, o, none⟩ : Addr).add j = ⟨b, o + j, none⟩ := by unfold Addr.add; split <;> simp_all

theorem A2_of {α β : Type} {R : α → β → Prop} {Q : Nat → β → Prop} : ∀ (l : List α), (∀ j c, l[j]? = some c → ∃ u, Q j u ∧ R c u) → ∃ m, A2 R l m ∧ ∀ j u, m[j]? = some u → Q j u
  | [], _ => ⟨[], trivial, fun j u h => by simp at h⟩
  | c :: l, h => by
    obtain ⟨u, q, r⟩ := h 0 c rfl
    obtain ⟨m, hm, hq⟩ := A2_of (Q := fun j u => Q (j + 1) u) l (fun j c hc => h (j + 1) c (by simpa using hc))
    refine ⟨u :: m, ⟨r, hm⟩, fun j v hv => ?_⟩
    cases j with
    | zero => simp at hv; exact hv ▸ q
    | succ j => exact hq j v (by simpa using hv)

section
variable {P : Program} {G : Cfg} (ht : TOK P G.T) {X : Ctx2} {s : St} {a : Act} {w : World} {E : Env}
include ht

theorem run_loadVar_cells {bs : Nat → Blk} {t b o : Nat} {cs : List Cell} {vals : List Value} {v : W1} (hA : A2 (RC1 bs w E) cs vals)
    (hcell : ∀ j u, vals[j]? = some u → w.cell? ⟨b, o + j, none⟩ = some u) (hm : mkW G t cs = some v) :
    ∃ val, (loadVar t ⟨b, o, none⟩).run P w = .ok val w ∧ RW bs w E v val := by
  unfold mkW at hm
  have agg : ∀ (_ : (G.T t).k ≠ .other) (_ : aggK (G.T t).k = true) (_ : (bif Nat.ble (G.T t).size cs.length then some (W1.agg (cs.take (G.T t).size)) else none) = some v),
      ∃ val, (loadVar t ⟨b, o, none⟩).run P w = .ok val w ∧ RW bs w E v val := by
    intro h1 h2 h3
    cases hle : Nat.ble (G.T t).size cs.length
    · simp [hle] at h3
    · simp only [hle, cond_true, Option.some.injEq] at h3
      have hle' : (G.T t).size ≤ cs.length := Nat.le_of_ble_eq_true hle
      have hl := run_loadCells_list (P := P) (w := w) ⟨b, o, none⟩ (vals.take (G.T t).size) (fun j u hj => by
        rw [addr_add]
        refine hcell j u ?_
        rw [List.getElem?_take] at hj
        split at hj
        · exact hj
        · cases hj)
      have hlen : (vals.take (G.T t).size).length = (G.T t).size := by rw [List.length_take, ← hA.length]; omega
      rw [hlen] at hl
      refine ⟨.agg (vals.take (G.T t).size).toArray, ?_, ?_⟩
      · unfold loadVar
        rw [Sem.run_bind, ht.isAgg h1]
        simp only [h2, Result.andThen_ok, if_true]
        simp [Sem.run_bind, ht.sizeOf h1, hl]
      · subst h3
        exact ⟨_, rfl, by simpa using hA.take _⟩
  have one : ∀ (_ : (G.T t).k ≠ .other) (_ : aggK (G.T t).k = false) (_ : headC cs = some v),
      ∃ val, (loadVar t ⟨b, o, none⟩).run P w = .ok val w ∧ RW bs w E v val := by
    intro h1 h2 h3
    clear hm agg
    match cs, vals, hA with
    | [], _, _ => simp [headC] at h3
    | c :: cs, u :: vals, hA =>
      simp only [headC, Option.some.injEq] at h3
      subst h3
      have hc := hcell 0 u rfl
      refine ⟨u, ?_, hA.1.1, ?_⟩
      · unfold loadVar
        rw [Sem.run_bind, ht.isAgg h1]
        simp only [h2, Result.andThen_ok]
        simp only [Nat.add_zero] at hc
        simp [run_load, hc]
      · split
        · trivial
        · exact hA.1.2
  cases hk : (G.T t).k <;> rw [hk] at hm agg one <;> simp only [aggK] at agg one
  case struct fs => exact agg (by simp) trivial hm
  case arr n e => exact agg (by simp) trivial hm
  case other => cases hm
  all_goals exact one (by simp) trivial hm

theorem loadA_sound (hs : Sim G.T X s a w E) {x : AV} {y : Value} (hx : RA s.bs w E x y) {t : Nat} {v : W1} (h : loadA G s x t = some v) :
    ∃ val, (Instr.loadAt t y).run P w = .ok val w ∧ RW s.bs w E v val := by
  unfold loadA at h
  split at h
  · rename_i r o
    have hb := hs.bl.blk r
    split at h
    · rename_i cs hr
      rw [hr] at hb
      obtain ⟨ar, ty, hh, hA⟩ := hb
      have hy : y = .pointer (some ⟨E.σ r, o, none⟩) := by have := hx.1; simp only [RC, hr] at this; exact this
      obtain ⟨val, hv, hr'⟩ := run_loadVar_cells ht (b := E.σ r) (o := o) (hA.drop o) (fun j u hj => by
        rw [cell_of_row w _ _ ar ty _ hh]; simpa using hj) h
      refine ⟨val, ?_, hr'⟩
      subst hy
      simpa [Instr.loadAt, Instr.sureAddr] using hv
    · rename_i cs hr
      rw [hr] at hb
      obtain ⟨_, ar, ty, fr, hh, hA⟩ := hb
      have hy : y = .pointer (some ⟨E.σ r, o, none⟩) := by have := hx.1; simp only [RC, hr] at this; exact this
      obtain ⟨val, hv, hr'⟩ := run_loadVar_cells ht (bs := s.bs) (E := E) (b := E.σ r) (o := o) (vals := ar.toList.drop o) (A2.map_left (f := Cell.p) (hA.drop o)) (fun j u hj => by
        rw [cell_of_row w _ _ ar ty _ hh]; simpa using hj) h
      refine ⟨val, ?_, hr'⟩
      subst hy
      simpa [Instr.loadAt, Instr.sureAddr] using hv
    · cases h
  · rename_i cs o
    obtain ⟨b, off, hy, hF, hc⟩ := hx.1
    obtain ⟨m, hA, hq⟩ := A2_of (R := fun c u => RPC w E.F c u ∧ u.oneCell' = true) (Q := fun j u => w.cell? ⟨b, off + o + j, none⟩ = some u) (cs.drop o) (fun j c hj => by
      obtain ⟨u, h1, h2, h3⟩ := hc (o + j) c (by simpa using hj)
      exact ⟨u, by rw [Nat.add_assoc]; exact h1, h3, h2⟩)
    obtain ⟨val, hv, hr'⟩ := run_loadVar_cells ht (bs := s.bs) (E := E) (b := b) (o := off + o) (A2.map_left (f := Cell.p) hA) hq h
    refine ⟨val, ?_, hr'⟩
    subst hy
    simpa [Instr.loadAt, Instr.sureAddr] using hv
  · cases h

theorem fieldAt_run {t f off sz ft : Nat} {fs : List (Nat × Nat × Nat)} (hk : (G.T t).k = .struct fs) (hf : fs[f]? = some (off, sz, ft)) (hz : Nat.beq sz 0 = false) (b o : Nat) :
    (Instr.fieldAt t (.pointer (some ⟨b, o, none⟩)) f).run P w = .ok (.pointer (some ⟨b, o + off, none⟩)) w := by
  obtain ⟨fields, hu, hm⟩ := ht.struct hk
  have hf' : (fields.toList.map (fun f => (f.offset, ((P.info? f.type).map (·.size)).getD 0, f.type)))[f]? = some (off, sz, ft) := by rw [hm]; exact hf
  rw [List.getElem?_map, Option.map_eq_some_iff] at hf'
  obtain ⟨fd, hfd, he⟩ := hf'
  have hfd' : fields[f]? = some fd := by simpa using hfd
  simp only [Prod.mk.injEq] at he
  obtain ⟨e1, e2, e3⟩ := he
  have hsz : sz ≠ 0 := fun e => by rw [e] at hz; simp at hz
  cases hi : P.info? fd.type with
  | none => rw [hi] at e2; simp at e2; exact absurd e2.symm hsz
  | some i =>
    rw [hi] at e2
    have e2' : i.size = sz := by simpa using e2
    have hne : i.size ≠ 0 := by omega
    simp [Instr.fieldAt, run_underlying hu, hfd', Instr.sureAddr, fieldPlace, sizeOf, typeInfo, hi, hne, addr_add, e1]

theorem alive_ptr {r o : Nat} {y : Value} (h : alive s r = true) (hx : RA s.bs w E (.one (.ptr r o)) y) : y = .pointer (some ⟨E.σ r, o, none⟩) := by
  unfold alive at h
  have := hx.1
  simp only [RC] at this
  split at h <;> simp_all
end
end Go.Fw
/- Operations that give a value: structs that are built, and all of them together. -/
namespace Go.Fw
open Go Go.RowKit

theorem setAt_cons {α : Type} : ∀ (l : List α) (n : Nat) (v : α) (vs : List α), n < l.length → setAt l n (v :: vs) = setAt (l.set n v) (n + 1) vs
  | [], n, v, vs, h => by simp at h
  | x :: l, 0, v, vs, _ => by
    cases vs with
    | nil => cases l <;> simp [setAt]
    | cons a b => simp [setAt]
  | x :: l, n + 1, v, vs, h => by
    have ih := setAt_cons l n v vs (by simpa using h)
    cases vs with
    | nil => simp [setAt] at ih ⊢; exact ih
    | cons a b => simp [setAt] at ih ⊢; exact ih
theorem setAt_length {α : Type} : ∀ (l : List α) (n : Nat) (vs : List α), (setAt l n vs).length = l.length
  | l, n, [] => by cases l <;> cases n <;> simp [setAt]
  | [], n, _ :: _ => by simp [setAt]
  | x :: l, 0, v :: vs => by simp [setAt, setAt_length l 0 vs]
  | x :: l, n + 1, v :: vs => by simp [setAt, setAt_length l n (v :: vs)]
theorem A2.setAt {α β : Type} {R : α → β → Prop} : ∀ {l : List α} {m : List β}, A2 R l m → ∀ (n : Nat) {vs : List α} {us : List β}, A2 R vs us → A2 R (setAt l n vs) (setAt m n us)
  | l, m, h, n, [], [], _ => by cases l <;> cases m <;> cases n <;> simpa [Fw.setAt] using h
  | [], [], _, n, _ :: _, _ :: _, _ => by simp [Fw.setAt, A2]
  | _ :: _, _ :: _, h, 0, _ :: _, _ :: _, h' => ⟨h'.1, A2.setAt h.2 0 h'.2⟩
  | _ :: _, _ :: _, h, n + 1, _ :: _, _ :: _, h' => ⟨h.1, A2.setAt h.2 n h'⟩
theorem setAt_spec {α : Type} : ∀ (l : List α) (n : Nat) (vs : List α), n + vs.length ≤ l.length → setAt l n vs = l.take n ++ vs ++ l.drop (n + vs.length)
  | l, n, [], h => by cases l <;> cases n <;> simp [setAt]
  | [], n, v :: vs, h => by simp at h
  | x :: l, 0, v :: vs, h => by
    have := setAt_spec l 0 vs (by simp at h ⊢; omega)
    simp [setAt, this]
  | x :: l, n + 1, v :: vs, h => by
    have := setAt_spec l n (v :: vs) (by simp at h ⊢; omega)
    have e : n + 1 + (v :: vs).length = (n + (v :: vs).length) + 1 := by simp; omega
    rw [e]
    simp [setAt, this]

theorem foldl_set (off : Nat) : ∀ (l : List Value) (k : Nat) (ar : Array Value), off + k + l.length ≤ ar.size →
    ((l.zipIdx k).foldl (fun cs p => cs.setIfInBounds (off + p.2) p.1) ar).toList = setAt ar.toList (off + k) l
  | [], k, ar, _ => by simp only [List.zipIdx_nil, List.foldl_nil]; cases ar.toList <;> cases off + k <;> simp [setAt]
  | v :: l, k, ar, h => by
    simp only [List.zipIdx_cons, List.foldl_cons]
    rw [foldl_set off l (k + 1) _ (by simp at h ⊢; omega), setAt_cons _ _ _ _ (by simp at h ⊢; omega)]
    simp [Nat.add_assoc]

section
variable {w : World} {E : Env} {bs : Nat → Blk}

theorem cells_one {y : Value} (h : y.oneCell' = true) : y.cells = #[y] := by cases y <;> first | rfl | (simp [Value.oneCell'] at h)
theorem RW_cells {x : W1} {y : Value} (h : RW bs w E x y) (hj : okBox (.w x) = true) : A2 (RC1 bs w E) x.cells y.cells.toList := by
  cases x with
  | one c =>
    obtain ⟨h1, h2⟩ := h
    have h3 : y.oneCell' = true := by
      cases c <;> first | (simp [okBox] at hj; done) | exact h2
    rw [cells_one h3]
    exact ⟨⟨h1, h3⟩, trivial⟩
  | agg cs =>
    obtain ⟨ar, rfl, h⟩ := h
    exact h
theorem RA_cells {x : AV} {y : Value} (h : RA bs w E x y) (hj : okBox x = true) : A2 (RC1 bs w E) (cellsA x) y.cells.toList := by
  cases x with
  | w x => exact RW_cells h hj
  | tup l => simp [okBox] at hj

theorem fill_sound (pl : Nat → Option (Nat × Nat)) : ∀ (parts : List (Nat × List Cell)) (vals : List (Nat × Value)),
    A2 (fun (p : Nat × List Cell) (q : Nat × Value) => p.1 = q.1 ∧ A2 (RC1 bs w E) p.2 q.2.cells.toList) parts vals →
    ∀ (cs cs' : List Cell) (ar : Array Value), A2 (RC1 bs w E) cs ar.toList → fill pl cs parts = some cs' → ∃ ar', Instr.fill pl ar vals = some ar' ∧ A2 (RC1 bs w E) cs' ar'.toList
  | [], [], _, cs, cs', ar, h, hf => by simp [fill] at hf; exact ⟨ar, rfl, hf ▸ h⟩
  | (i, v) :: parts, (j, y) :: vals, hp, cs, cs', ar, h, hf => by
    obtain ⟨⟨he, hv⟩, hp⟩ := hp
    simp only at he hv
    subst he
    simp only [fill] at hf
    cases hpl : pl i with
    | none => simp [hpl] at hf
    | some os =>
      obtain ⟨off, size⟩ := os
      simp only [hpl] at hf
      cases hc : (Nat.beq v.length size && Nat.ble (off + size) cs.length)
      · simp [hc] at hf
      · simp only [hc, cond_true] at hf
        have h1 : v.length = size := Nat.eq_of_beq_eq_true (by simp at hc; simpa using hc.1)
        have h2 : off + size ≤ cs.length := Nat.le_of_ble_eq_true (by simp at hc; simpa using hc.2)
        have hl := hv.length
        have hl2 := h.length
        have hsz : y.cells.size = size := by rw [← h1, hl]; simp
        have har : ar.size = cs.length := by rw [hl2]; simp
        have hset := foldl_set off y.cells.toList 0 ar (by simp; omega)
        simp only [Nat.add_zero] at hset
        have hA : A2 (RC1 bs w E) (setAt cs off v) ((y.cells.toList.zipIdx 0).foldl (fun cs p => cs.setIfInBounds (off + p.2) p.1) ar).toList := by
          rw [hset]; exact h.setAt off hv
        obtain ⟨ar', h3, h4⟩ := fill_sound pl parts vals hp _ cs' _ hA hf
        refine ⟨ar', ?_, h4⟩
        simp only [Instr.fill, hpl]
        rw [if_neg (by simp; omega)]
        rw [← h3]
        congr 1
        rw [← Array.foldl_toList, Array.toList_zipIdx]

theorem valsOf_sound : ∀ (cs : List Cell) (us vs : List Value), A2 (RC1 bs w E) cs us → valsOf cs = some vs → us = vs
  | [], [], vs, _, h => by simp [valsOf] at h; exact h.symm
  | c :: cs, u :: us, vs, hA, h => by
    obtain ⟨h1, h2⟩ := hA
    unfold valsOf at h
    split at h
    · rename_i he; cases he
    · rename_i x l he
      simp only [List.cons.injEq] at he
      obtain ⟨rfl, rfl⟩ := he
      cases hv : valsOf cs with
      | none => simp [hv] at h
      | some r =>
        simp [hv] at h
        rw [← h, ← valsOf_sound cs us r h2 hv, h1.1]
    · rename_i f l he
      simp only [List.cons.injEq] at he
      obtain ⟨rfl, rfl⟩ := he
      cases hv : valsOf cs with
      | none => simp [hv] at h
      | some r =>
        simp [hv] at h
        obtain ⟨x, y, e, q1, q2⟩ := h1.1
        have hx : x = #[] := by
          cases hq : x.toList with
          | nil => exact Array.toList_eq_nil_iff.1 hq
          | cons p q => rw [hq] at q1; exact q1.elim
        have hy : y = #[] := by
          cases hq : y.toList with
          | nil => exact Array.toList_eq_nil_iff.1 hq
          | cons p q => rw [hq] at q2; exact q2.elim
        rw [← h, ← valsOf_sound cs us r h2 hv, e, hx, hy]
    · cases h
end

section
variable {P : Program} {G : Cfg} (ht : TOK P G.T) {X : Ctx2} {s : St} {a : Act} {w : World} {E : Env}
include ht

theorem parts_sound (hs : Sim G.T X s a w E) : ∀ (l : List (Nat × Operand)), (l.all fun p => okBox (s.ev p.2)) = true →
    A2 (fun (p : Nat × List Cell) (q : Nat × Value) => p.1 = q.1 ∧ A2 (RC1 s.bs w E) p.2 q.2.cells.toList) (l.map fun p => (p.1, cellsA (s.ev p.2))) (l.map fun p => (p.1, a.eval p.2))
  | [], _ => trivial
  | p :: l, h => by
    simp only [List.all_cons, Bool.and_eq_true] at h
    exact ⟨⟨rfl, RA_cells (hs.ev p.2) h.1⟩, parts_sound hs l h.2⟩

theorem okT_ne {t : Nat} (h : okT G t = true) : (G.T t).k ≠ .other := by
  intro e
  simp [okT, e] at h
theorem zeroCs_ok {bs : Nat → Blk} {t : Nat} (hk : (G.T t).k ≠ .other) : A2 (RC1 bs w E) (zeroCs G t) (G.T t).zero.cells.toList := by
  have h := (ht t hk).2.2
  unfold zeroCs
  have h1 := ofVal_ok (w := w) (E := E) bs (G.T t).zero
  cases hz : (G.T t).zero with
  | agg cs =>
    rw [hz] at h h1
    simp only [Value.cells] at h
    simp only [ofVal, w1Of, h, cond_true] at h1 ⊢
    obtain ⟨ar, e, h2⟩ := h1
    cases e
    exact h2
  | tuple vs => rw [hz] at h; simp [Value.cells, cellsOk] at h
  | slice b n c =>
    rw [hz] at h1
    refine ⟨⟨?_, rfl⟩, trivial⟩
    exact (cellOf_ok bs (.slice b n c) rfl).1
  | _ => exact ⟨cellOf_ok bs _ rfl, trivial⟩

theorem buildA_sound (hs : Sim G.T X s a w E) {t : Nat} {parts : Array (Nat × Operand)} {v : AV} (h : buildA G s t parts.toList = some v) :
    ∃ val, (Instr.build t (parts.map fun (i, x) => (i, a.eval x))).run P w = .ok val w ∧ RA s.bs w E v val := by
  unfold buildA at h
  cases hall : (parts.toList.all fun p => okBox (s.ev p.2))
  · simp [hall] at h
  · simp only [hall, cond_true] at h
    have hp := parts_sound ht hs parts.toList hall
    have hpl : (parts.map fun (i, x) => (i, a.eval x)).toList = parts.toList.map fun p => (p.1, a.eval p.2) := by simp
    split at h
    · rename_i fs hk
      obtain ⟨fields, hu, hm⟩ := ht.struct hk
      cases hz : (fs.all fun f => !Nat.beq f.2.1 0)
      · simp [hz] at h
      · simp only [hz, cond_true] at h
        cases hf : fill (fun i => (fs[i]?).map fun f => (f.1, f.2.1)) (zeroCs G t) (parts.toList.map fun p => (p.1, cellsA (s.ev p.2))) with
        | none => simp [hf] at h
        | some cs' =>
          simp only [hf, Option.map_some, Option.some.injEq] at h
          subst h
          obtain ⟨ar', h1, h2⟩ := fill_sound _ _ _ hp _ cs' (G.T t).zero.cells (zeroCs_ok ht (by rw [hk]; simp)) hf
          refine ⟨.agg ar', ?_, ar', rfl, h2⟩
          refine run_build w t _ ar' ?_
          rw [hpl]
          obtain ⟨i, hi, hsz, hzr⟩ := ht.info (t := t) (by rw [hk]; simp)
          unfold Program.built
          rw [hi, hu]
          simp only [hzr]
          have hpls : fields.toList.mapM (fun f => (P.info? f.type).map fun i => (f.offset, i.size)) = some (fs.map fun f => (f.1, f.2.1)) := by
            subst hm
            generalize fields.toList = L at hz ⊢
            induction L with
            | nil => rfl
            | cons fd L ih =>
              simp only [List.map_cons, List.all_cons, Bool.and_eq_true] at hz
              have ih' := ih hz.2
              cases hfi : P.info? fd.type with
              | none => rw [hfi] at hz; simp at hz
              | some ii => simp [List.mapM_cons, hfi, ih']
          rw [hpls]
          simp only
          rw [← h1]
          congr 1
          funext i
          simp
    · rename_i n e hk
      cases hz : okT G e
      · simp [hz] at h
      · simp only [hz, Bool.not_true, cond_false] at h
        cases hf : fill (fun i => some (i * sizeT G e, sizeT G e)) (zeroCs G t) (parts.toList.map fun p => (p.1, cellsA (s.ev p.2))) with
        | none => simp [hf] at h
        | some cs' =>
          simp only [hf, Option.map_some, Option.some.injEq] at h
          subst h
          obtain ⟨ar', h1, h2⟩ := fill_sound _ _ _ hp _ cs' (G.T t).zero.cells (zeroCs_ok ht (by rw [hk]; simp)) hf
          refine ⟨.agg ar', ?_, ar', rfl, h2⟩
          refine run_build w t _ ar' ?_
          rw [hpl]
          obtain ⟨i, hi, hsz, hzr⟩ := ht.info (t := t) (by rw [hk]; simp)
          unfold Program.built
          rw [hi, ht.arr hk]
          obtain ⟨ie, hie, hse, _⟩ := ht.info (okT_ne ht hz)
          simp only [hzr, hie, hse]
          exact h1
    · cases h

end
end Go.Fw
/- Operations that give a value and turn no memory: all of them. -/
namespace Go.Fw
open Go Go.RowKit
section
variable {P : Program} {G : Cfg} (ht : TOK P G.T) {X : Ctx2} {s : St} {a : Act} {w : World} {E : Env}
include ht

theorem makeInterface_sound (hs : Sim G.T X s a w E) {t : Nat} {x : Operand} {v : AV} (h : evPure G s (.makeInterface t x) = some v) :
    ∃ val, (Instr.makeInterface t (a.eval x)).run P w = .ok val w ∧ RA s.bs w E v val := by
  simp only [evPure] at h
  split at h
  · cases h
  · rename_i hni
    cases hok : okT G t
    · simp [hok] at h
    · simp only [hok, cond_true] at h
      have hne := okT_ne ht hok
      have hrun : ∀ y, (Instr.makeInterface t y).run P w = .ok (.iface t y) w := by
        intro y
        obtain ⟨d, hd⟩ := ht.und hne
        have h1 := (ht t hne).1
        unfold Instr.makeInterface
        rw [Sem.run_bind, run_underlying hd w]
        simp only [tkOf, hd] at h1
        cases d <;> first
          | rfl
          | (simp only at h1; exact absurd h1.symm hni)
      refine ⟨_, hrun _, ?_⟩
      have hx := hs.ev x
      split at h
      · rename_i u he
        cases h
        rw [he] at hx
        rw [RA_val hx]
        exact RA_val_mk _ rfl
      · rename_i cs he
        cases hv : valsOf cs with
        | none => simp [hv] at h
        | some vs =>
          simp only [hv, Option.map_some, Option.some.injEq] at h
          subst h
          rw [he] at hx
          obtain ⟨ar, e, hA⟩ := hx
          rw [e]
          have := valsOf_sound cs _ vs hA hv
          subst this
          exact RA_val_mk _ rfl
      · cases h

theorem part_run {bs : Nat → Blk} {t off : Nat} {cs : List Cell} {ar : Array Value} {v : W1} (hA : A2 (RC1 bs w E) cs ar.toList) (h : mkW G t (cs.drop off) = some v) :
    ∃ val, (part t ar off).run P w = .ok val w ∧ RW bs w E v val := by
  have hne : (G.T t).k ≠ .other := by intro e; simp [mkW, e] at h
  have agg : ∀ (_ : aggK (G.T t).k = true) (_ : (bif Nat.ble (G.T t).size (cs.drop off).length then some (W1.agg ((cs.drop off).take (G.T t).size)) else none) = some v),
      ∃ val, (part t ar off).run P w = .ok val w ∧ RW bs w E v val := by
    intro h2 h3
    cases hle : Nat.ble (G.T t).size (cs.drop off).length
    · simp only [hle, cond_false] at h3; cases h3
    · simp only [hle, cond_true, Option.some.injEq] at h3
      refine ⟨.agg (ar.extract off (off + (G.T t).size)), ?_, ?_⟩
      · unfold part
        rw [Sem.run_bind, ht.isAgg hne]
        simp only [h2, Result.andThen_ok, if_true]
        simp [Sem.run_bind, ht.sizeOf hne]
      · subst h3
        refine ⟨_, rfl, ?_⟩
        have : (ar.extract off (off + (G.T t).size)).toList = (ar.toList.drop off).take (G.T t).size := by
          simp [List.extract_eq_take_drop]
        rw [this]
        exact (hA.drop off).take _
  have one : ∀ (_ : aggK (G.T t).k = false) (_ : headC (cs.drop off) = some v), ∃ val, (part t ar off).run P w = .ok val w ∧ RW bs w E v val := by
    intro h2 h3
    cases hd : cs.drop off with
    | nil => simp [hd, headC] at h3
    | cons c l =>
      simp only [hd, headC, Option.some.injEq] at h3
      subst h3
      have hq := hA.drop off
      rw [hd] at hq
      obtain ⟨u, hu, hr⟩ := hq.get 0 c rfl
      have hu' : ar[off]? = some u := by simpa using hu
      refine ⟨u, ?_, hr.1, ?_⟩
      · unfold part
        rw [Sem.run_bind, ht.isAgg hne]
        simp only [h2, Result.andThen_ok]
        simp [hu']
      · split
        · trivial
        · exact hr.2
  unfold mkW at h
  cases hk : (G.T t).k <;> rw [hk] at h agg one hne <;> simp only [aggK] at agg one
  case struct fs => exact agg trivial h
  case arr n e => exact agg trivial h
  case other => exact absurd rfl hne
  all_goals exact one trivial h

/-- All of them. -/
theorem evPure_sound (hs : Sim G.T X s a w E) (o : Oper) {v : AV} (h : evPure G s o.op = some v) :
    ∃ val, (execOp a.eval o).run P w = .ok (.value val) w ∧ RA s.bs w E v val := by
  obtain ⟨dst, op, ty, pos, after, guard⟩ := o
  cases op with
  | move x => simp only [evPure, Option.some.injEq] at h; subst h; exact ⟨_, rfl, hs.ev x⟩
  | assign x => simp only [evPure, Option.some.injEq] at h; subst h; exact ⟨_, rfl, hs.ev x⟩
  | unOp op t x =>
    have hx := hs.ev x
    cases op with
    | not =>
      simp only [evPure] at h
      split at h
      · rename_i b he
        cases h
        rw [he] at hx
        exact ⟨.bool !b, by simp [execOp, RA_val hx, Op.unary], RA_val_mk _ rfl⟩
      · cases h
    | neg =>
      simp only [evPure] at h
      split at h
      · rename_i k n he
        cases h
        rw [he] at hx
        exact ⟨.int k (k.wrap (0 - n)), by simp [execOp, RA_val hx, Op.unary, Op.intArith], RA_val_mk _ rfl⟩
      · cases h
    | _ => simp [evPure] at h
  | fieldAddr t x f =>
    have hx := hs.ev x
    simp only [evPure] at h
    split at h
    · rename_i fs hk
      cases hf : fs[f]? with
      | none => rw [hf] at h; cases h
      | some q =>
      obtain ⟨off, sz, ft⟩ := q
      rw [hf] at h
      simp only [faA] at h
      split at h
      · rename_i r o he
        cases hz : (Nat.beq sz 0 || !alive s r)
        · simp only [hz, cond_false, Option.some.injEq] at h
          subst h
          simp only [Bool.or_eq_false_iff, Bool.not_eq_false'] at hz
          rw [he] at hx
          have hy := alive_ptr ht hz.2 hx
          refine ⟨.pointer (some ⟨E.σ r, o + off, none⟩), ?_, ⟨?_, rfl⟩⟩
          · simp [execOp, hy, fieldAt_run ht hk hf hz.1]
          · have := hx.1
            simp only [RC] at this ⊢
            have hal := hz.2
            unfold alive at hal
            split at hal <;> simp_all
        · simp [hz] at h
      · rename_i cs o he
        cases hz : Nat.beq sz 0
        · simp only [hz, cond_false, Option.some.injEq] at h
          subst h
          rw [he] at hx
          obtain ⟨b, of, hy, hF, hc⟩ := hx.1
          refine ⟨.pointer (some ⟨b, of + o + off, none⟩), ?_, ⟨⟨b, of, by rw [Nat.add_assoc], hF, hc⟩, rfl⟩⟩
          simp [execOp, hy, fieldAt_run ht hk hf hz]
        · simp [hz] at h
      · cases h
    · cases h
  | field t x f =>
    have hx := hs.ev x
    simp only [evPure] at h
    split at h
    · rename_i fs hk
      split at h
      · rename_i off sz ft cs hf he
        cases hm : mkW G ft (cs.drop off) with
        | none => simp [hm] at h
        | some v' =>
          simp only [hm, Option.map_some, Option.some.injEq] at h
          subst h
          rw [he] at hx
          obtain ⟨ar, e, hA⟩ := hx
          obtain ⟨val, h1, h2⟩ := part_run ht hA hm
          refine ⟨val, ?_, h2⟩
          obtain ⟨fields, hu, hmm⟩ := ht.struct hk
          have hf' : (fields.toList.map (fun f => (f.offset, ((P.info? f.type).map (·.size)).getD 0, f.type)))[f]? = some (off, sz, ft) := by rw [hmm]; exact hf
          rw [List.getElem?_map, Option.map_eq_some_iff] at hf'
          obtain ⟨fd, hfd, hee⟩ := hf'
          have hfd' : fields[f]? = some fd := by simpa using hfd
          simp only [Prod.mk.injEq] at hee
          obtain ⟨e1, _, e3⟩ := hee
          simp [execOp, e, Instr.field, run_underlying hu, hfd', asAgg, e1, e3, h1]
      · cases h
    · cases h
  | load t x =>
    simp only [evPure] at h
    cases hl : loadA G s (s.ev x) t with
    | none => simp [hl] at h
    | some v' =>
      simp only [hl, Option.map_some, Option.some.injEq] at h
      subst h
      obtain ⟨val, h1, h2⟩ := loadA_sound ht hs (hs.ev x) hl
      exact ⟨val, by simp [execOp, h1], h2⟩
  | extract x i =>
    have hx := hs.ev x
    simp only [evPure] at h
    split at h
    · rename_i l he
      cases hl : l[i]? with
      | none => simp [hl] at h
      | some v' =>
        simp only [hl, Option.map_some, Option.some.injEq] at h
        subst h
        rw [he] at hx
        obtain ⟨ar, e, hA⟩ := hx
        obtain ⟨u, hu, hr⟩ := hA.get i v' hl
        have hu' : ar[i]? = some u := by simpa using hu
        exact ⟨u, by simp [execOp, e, Instr.extract, hu'], hr⟩
    · cases h
  | nilCheck x =>
    have hx := hs.ev x
    simp only [evPure] at h
    split at h
    · rename_i r o he
      cases hz : alive s r
      · simp [hz] at h
      · simp only [hz, cond_true, Option.some.injEq] at h
        subst h
        rw [he] at hx
        have hy := alive_ptr ht hz hx
        exact ⟨_, by simp [execOp, hy], hy ▸ hx⟩
    · rename_i r o he
      cases h
      rw [he] at hx
      obtain ⟨b, of, hy, hF, hc⟩ := hx.1
      exact ⟨_, by simp [execOp, hy], hy ▸ hx⟩
    · cases h
  | build t parts =>
    obtain ⟨val, h1, h2⟩ := buildA_sound ht hs h
    exact ⟨val, by simp only [execOp, Sem.run_bind, h1, Result.andThen_ok]; rfl, h2⟩
  | makeInterface t x =>
    obtain ⟨val, h1, h2⟩ := makeInterface_sound ht hs h
    exact ⟨val, by simp only [execOp, Sem.run_bind, h1, Result.andThen_ok]; rfl, h2⟩
  | _ => simp [evPure] at h
end
end Go.Fw
/- Operations that turn memory, and calls. -/
namespace Go.Fw
open Go Go.RowKit

theorem flatten_get {α : Type} : ∀ (xs : List (List α)) (k : Nat), (∀ es ∈ xs, es.length = k) → ∀ i es, xs[i]? = some es → ∀ j u, es[j]? = some u → xs.flatten[i * k + j]? = some u
  | [], k, _, i, es, h, j, u, hu => by simp at h
  | x :: xs, k, hk, 0, es, h, j, u, hu => by
    simp at h; subst h
    have : j < x.length := (List.getElem?_eq_some_iff.1 hu).1
    simp [List.getElem?_append_left this, hu]
  | x :: xs, k, hk, i + 1, es, h, j, u, hu => by
    have hx := hk x (by simp)
    have ih := flatten_get xs k (fun es he => hk es (by simp [he])) i es (by simpa using h) j u hu
    rw [List.flatten_cons, List.getElem?_append_right (by rw [hx, Nat.add_mul]; omega)]
    rw [← ih]
    congr 1
    rw [hx, Nat.add_mul]; omega

section
variable {T : Nat → TI} {w w' : World} {E E' : Env} {bs : Nat → Blk}

theorem vec_RSl {r e : Nat} {xs : List (List Value)} {fz : Bool} (h : RB T bs w E r (.vec e xs fz)) {F1 : Nat → Prop} (hF : ∀ b, (E.sv r).ownBlock = some b → F1 b) : RSl w F1 xs false (E.sv r) := by
  obtain ⟨h1, h2, h3, ho, _⟩ := h
  have hk : ∀ es ∈ xs, es.length = (T e).size := fun es he => (h1 es he).1
  rcases ho.2 with ⟨hv, hn⟩ | ⟨g, cap, cur, hv, _, hh, hc, hm, hsz, htk⟩
  · refine ⟨none, 0, by rw [hv, hn], by omega, by simp, h3, (T e).size, hk, fun hx => ?_⟩
    exact absurd (List.eq_nil_of_length_eq_zero hn) hx
  · refine ⟨some ⟨g, 0, none⟩, cap, hv, hc, by simp, h3, (T e).size, hk, fun hx => ⟨g, 0, rfl, hF g (by rw [hv]; rfl), fun i es hi j u hj => ⟨(h1 es (List.mem_of_getElem? hi)).2 u (List.mem_of_getElem? hj), ?_⟩⟩⟩
    have hcell := ho.cells (g := g) (by rw [hv]; rfl) (i * (T e).size + j) u (flatten_get xs _ hk i es hi j u hj)
    rw [addr_add] at hcell
    rw [Nat.add_assoc]
    exact hcell

theorem argK_sound {s : St} (hb : Blocks T s.bs w E) {c : Cell} {y : Value} (hc : RC s.bs w E c y) {K : Cell → List Nat → Prop} (h : argK s c K) :
    ∃ c' rs, K c' rs ∧ (∀ r ∈ rs, ∃ e xs fz, s.bs r = .vec e xs fz) ∧
      ∀ F1 : Nat → Prop, (∀ b, E.F b → F1 b) → (∀ r ∈ rs, ∀ b, (E.sv r).ownBlock = some b → F1 b) → RC (fun _ => .none) w ⟨E.σ, E.sv, F1⟩ c' y := by
  unfold argK at h
  split at h
  · rename_i xs
    refine ⟨_, _, h, by simp, fun F1 h1 _ => ?_⟩
    have : RSl w F1 xs true y := RSl.ext ⟨h1, fun _ _ => rfl⟩ hc
    obtain ⟨a, cap, e, q1, q2, q3⟩ := this
    exact ⟨a, cap, e, q1, by simp, q3⟩
  · rename_i x
    exact ⟨_, _, h, by simp, fun F1 h1 _ => RPC.ext ⟨h1, fun _ _ => rfl⟩ hc⟩
  · refine ⟨_, _, h, by simp, fun F1 h1 _ => ?_⟩
    refine ⟨none, 0, ?_, Nat.le_refl _, by simp, by simp, 0, by simp, by simp⟩
    simpa [RC] using hc
  · rename_i r n
    split at h
    · rename_i e xs fz hr
      obtain ⟨hl, hK⟩ := h
      refine ⟨_, _, hK, fun q hq => by simp at hq; subst hq; exact ⟨e, xs, fz, hr⟩, fun F1 h1 h2 => ?_⟩
      have hv := hb.blk r
      rw [hr] at hv
      have hy : y = E.sv r := by
        simp only [RC, hr] at hc
        exact hc.2 hl
      rw [hy]
      exact vec_RSl hv (h2 r (by simp))
    · exact h.elim
  · rename_i cs o
    exact ⟨_, _, h, by simp, fun F1 h1 _ => RPv.ext ⟨h1, fun _ _ => rfl⟩ hc⟩
  · rename_i f a b
    refine ⟨_, _, h, by simp, fun F1 h1 _ => ?_⟩
    obtain ⟨p, q, e, q1, q2⟩ := hc
    exact ⟨p, q, e, q1.mono fun _ _ => RCap.ext ⟨h1, fun _ _ => rfl⟩, q2.mono fun _ _ => RCap.ext ⟨h1, fun _ _ => rfl⟩⟩
  · exact h.elim

theorem argCsK_sound {s : St} (hb : Blocks T s.bs w E) : ∀ {cs : List Cell} {us : List Value}, A2 (RC1 s.bs w E) cs us → ∀ {K : List Cell → List Nat → Prop}, argCsK s cs K →
    ∃ cs' rs, K cs' rs ∧ (∀ r ∈ rs, ∃ e xs fz, s.bs r = .vec e xs fz) ∧
      ∀ F1 : Nat → Prop, (∀ b, E.F b → F1 b) → (∀ r ∈ rs, ∀ b, (E.sv r).ownBlock = some b → F1 b) → A2 (RC1 (fun _ => .none) w ⟨E.σ, E.sv, F1⟩) cs' us
  | [], [], _, K, h => ⟨[], [], h, by simp, fun _ _ _ => trivial⟩
  | c :: cs, u :: us, hA, K, h => by
    obtain ⟨c', r, hK, hr, hq⟩ := argK_sound hb hA.1.1 h
    obtain ⟨cs', rs, hK', hr', hq'⟩ := argCsK_sound hb hA.2 hK
    refine ⟨_, _, hK', fun q hq0 => ?_, fun F1 h1 h2 => ⟨⟨hq F1 h1 fun q hq0 => h2 q (by simp [hq0]), hA.1.2⟩, hq' F1 h1 fun q hq0 => h2 q (by simp [hq0])⟩⟩
    rcases List.mem_append.1 hq0 with hq0 | hq0
    · exact hr q hq0
    · exact hr' q hq0

theorem argAK_sound {s : St} (hb : Blocks T s.bs w E) {x : AV} {y : Value} (hx : RA s.bs w E x y) {K : AV → List Nat → Prop} (h : argAK s x K) :
    ∃ x' rs, K x' rs ∧ (∀ r ∈ rs, ∃ e xs fz, s.bs r = .vec e xs fz) ∧
      ∀ F1 : Nat → Prop, (∀ b, E.F b → F1 b) → (∀ r ∈ rs, ∀ b, (E.sv r).ownBlock = some b → F1 b) → RA (fun _ => .none) w ⟨E.σ, E.sv, F1⟩ x' y := by
  unfold argAK at h
  split at h
  · rename_i c
    obtain ⟨c', rs, hK, hr, hq⟩ := argK_sound hb hx.1 h
    refine ⟨_, _, hK, hr, fun F1 h1 h2 => ⟨hq F1 h1 h2, ?_⟩⟩
    have h2 := hx.2
    unfold argK at h
    split at h <;> (cases c' <;> first | trivial | exact h2)
  · rename_i cs
    obtain ⟨ar, e, hA⟩ := hx
    obtain ⟨cs', rs, hK, hr, hq⟩ := argCsK_sound hb hA h
    exact ⟨_, _, hK, hr, fun F1 h1 h2 => ⟨ar, e, hq F1 h1 h2⟩⟩
  · exact h.elim

theorem argsK_sound {s : St} (hb : Blocks T s.bs w E) : ∀ {l : List AV} {ys : List Value}, A2 (RA s.bs w E) l ys → ∀ {K : List AV → List Nat → Prop}, argsK s l K →
    ∃ l' rs, K l' rs ∧ (∀ r ∈ rs, ∃ e xs fz, s.bs r = .vec e xs fz) ∧
      ∀ F1 : Nat → Prop, (∀ b, E.F b → F1 b) → (∀ r ∈ rs, ∀ b, (E.sv r).ownBlock = some b → F1 b) → A2 (RA (fun _ => .none) w ⟨E.σ, E.sv, F1⟩) l' ys
  | [], [], _, K, h => ⟨[], [], h, by simp, fun _ _ _ => trivial⟩
  | c :: cs, u :: us, hA, K, h => by
    obtain ⟨c', r, hK, hr, hq⟩ := argAK_sound hb hA.1 h
    obtain ⟨cs', rs, hK', hr', hq'⟩ := argsK_sound hb hA.2 hK
    refine ⟨_, _, hK', fun q hq0 => ?_, fun F1 h1 h2 => ⟨hq F1 h1 fun q hq0 => h2 q (by simp [hq0]), hq' F1 h1 fun q hq0 => h2 q (by simp [hq0])⟩⟩
    rcases List.mem_append.1 hq0 with hq0 | hq0
    · exact hr q hq0
    · exact hr' q hq0

/-- Values without slices say nothing of memory. -/
theorem noSlC_ext {bs' : Nat → Blk} {c : Cell} {y : Value} (hn : noSlC c = true) (h : RC bs w E c y) : RC bs' w' E' c y := by
  unfold noSlC at hn
  split at hn
  · exact h
  · cases hn
theorem noSlCs_ext {bs' : Nat → Blk} : ∀ {cs : List Cell} {us : List Value}, cs.all noSlC = true → A2 (RC1 bs w E) cs us → A2 (RC1 bs' w' E') cs us
  | [], [], _, _ => trivial
  | c :: cs, u :: us, hn, h => by
    simp only [List.all_cons, Bool.and_eq_true] at hn
    exact ⟨⟨noSlC_ext hn.1 h.1.1, h.1.2⟩, noSlCs_ext hn.2 h.2⟩
theorem noSlW_ext {bs' : Nat → Blk} {x : W1} {y : Value} (hn : noSlW x = true) (h : RW bs w E x y) : RW bs' w' E' x y := by
  cases x with
  | one c => exact ⟨noSlC_ext hn h.1, h.2⟩
  | agg cs => obtain ⟨ar, e, hA⟩ := h; exact ⟨ar, e, noSlCs_ext hn hA⟩
theorem noSlWs_ext {bs' : Nat → Blk} : ∀ {cs : List W1} {us : List Value}, cs.all noSlW = true → A2 (RW bs w E) cs us → A2 (RW bs' w' E') cs us
  | [], [], _, _ => trivial
  | c :: cs, u :: us, hn, h => by
    simp only [List.all_cons, Bool.and_eq_true] at hn
    exact ⟨noSlW_ext hn.1 h.1, noSlWs_ext hn.2 h.2⟩
theorem noSlA_ext {bs' : Nat → Blk} {x : AV} {y : Value} (hn : noSlA x = true) (h : RA bs w E x y) : RA bs' w' E' x y := by
  cases x with
  | w x => exact noSlW_ext hn h
  | tup l => obtain ⟨ar, e, hA⟩ := h; exact ⟨ar, e, noSlWs_ext hn hA⟩

theorem BExt.ofNone (E : Env) (bs' : Nat → Blk) (E' : Env) : BExt (fun _ => .none) E bs' E' := fun _ h => (h rfl).elim

/-- What lies below stays: the blocks of a state stay. -/
theorem RB.heap (hh : ∀ b, b < w.heap.size → w'.heap[b]? = w.heap[b]?) (hF : ∀ b, E.F b → b < w.heap.size) {r : Nat} {b : Blk} (h : RB T bs w E r b) : RB T bs w' E r b := by
  have hf : FExt w E.F w' E.F := ⟨fun _ h => h, fun b hb => hh b (hF b hb)⟩
  have key : ∀ {q : Nat} {o : Obj}, w.heap[q]? = some o → w'.heap[q]? = w.heap[q]? := fun {q o} hq => hh q (Array.getElem?_eq_some_iff.1 hq).1
  refine h.keep hf (BExt.refl _ _) rfl rfl fun q hq => ?_
  cases b with
  | vars cs => obtain ⟨ar, ty, h1, h2⟩ := h; cases hq; exact key h1
  | imm cs => obtain ⟨h0, ar, ty, fr, h1, h2⟩ := h; cases hq; exact key h1
  | vec e xs fz =>
    obtain ⟨h1, h2, h3, ho, h5⟩ := h
    rcases ho.2 with hv | ⟨g, cap, cur, q1, q2, q3, q4⟩
    · simp [bblk, hv.1, Value.ownBlock] at hq
    · simp [bblk, q1, Value.ownBlock] at hq; subst hq; exact key q3
  | buf e n0 ys =>
    obtain ⟨h1, h2, h3, h4, h5⟩ := h
    rcases h5 with hv | ⟨g, cur, q0, q1, q2⟩
    · simp [bblk, hv.1, Value.ownBlock] at hq
    · simp [bblk, q0, Value.ownBlock] at hq; subst hq; exact key q1
  | mapb kk es => obtain ⟨ms, clock, h1, h2⟩ := h; cases hq; exact key h1
  | mapi kk isB m st => obtain ⟨ms, clock, h1, h2⟩ := h; cases hq; exact key h1
  | iter l p => cases hq; exact key h
  | lock D => cases hq; exact key h.2
  | tvars t cs => obtain ⟨ar, h1, h2⟩ := h; cases hq; exact key h1
  | chan c b cl => obtain ⟨_, sn, rc, h2⟩ := h; cases hq; exact key h2
  | _ => cases hq
theorem Blocks.heap (hh : ∀ b, b < w.heap.size → w'.heap[b]? = w.heap[b]?) (hz : w.heap.size ≤ w'.heap.size) (hF : ∀ b, E.F b → b < w.heap.size) (h : Blocks T bs w E) : Blocks T bs w' E where
  blk r := (h.blk r).heap hh hF
  inj := h.inj
  mt r b hb := ⟨(h.mt r b hb).1, Nat.lt_of_lt_of_le (h.mt r b hb).2 hz⟩
end
end Go.Fw
/- One operation runs well. -/
namespace Go.Fw
open Go Go.RowKit

theorem bsF_nil : bsF [] = fun _ => .none := by funext r; simp [bsF]

/-- What a call of a function owes. -/
def Sound (P : Program) (T : Nat → TI) : CallRel := fun f args bs out bs' =>
  (∃ fn c, P.funcs[f]? = some fn ∧ fn.body = some c ∧ (fn.name == "runtime.NumGoroutine") = false) ∧
  ∀ (w : World) (E : Env) (vs : Array Value), A2 (RA (bsF bs) w E) args vs.toList → Blocks T (bsF bs) w E → (∀ b, E.F b → b < w.heap.size) →
    Calls P f vs w fun e w' => ∃ E', Frame ⟨w, E.F, fun b => ∃ r, mblk (bsF bs) E r = some b⟩ w' E'.F ∧
      match out with
      | .ret r => ∃ v, e = .returned v ∧ RA (bsF bs') w' E' r v ∧ Blocks T (bsF bs') w' E' ∧ BExt (bsF bs) E (bsF bs') E' ∧
          ∀ r b, mblk (bsF bs') E' r = some b → (∃ q, mblk (bsF bs) E q = some b) ∨ w.heap.size ≤ b
      | .pan v => e = .panicked [{ v, recovered := false }]

theorem updL_map {α : Type} (f : Nat → α) (g : Nat → α) : ∀ (rs : List Nat) (q : Nat), updL f (rs.map fun r => (r, g r)) q = if q ∈ rs then g q else f q
  | [], q => by simp [updL]
  | r :: rs, q => by
    rw [List.map_cons, updL, updL_map (upd f r (g r)) g rs q]
    by_cases h1 : q ∈ rs
    · simp [h1]
    · by_cases h2 : q = r
      · subst h2; simp [h1, upd_same]
      · simp [h1, h2, upd_ne]

section
variable {G : Cfg} {X : Ctx2} {s : St} {a : Act} {w : World} {E : Env}

theorem Frame.trans {X : Ctx} {w w' : World} {F F1 F' : Nat → Prop} {M : Nat → Prop} (h : Frame X w F) (hk : Frame ⟨w, F1, M⟩ w' F')
    (hM : ∀ b, M b → X.M b ∨ X.w.heap.size ≤ b) (h1 : ∀ b, F1 b → X.F b ∨ X.w.heap.size ≤ b) (h2 : ∀ b, X.F b → F' b) : Frame X w' F' where
  flt b hb := ⟨(hk.flt b hb).1, by
    rcases (hk.flt b hb).2 with q | q
    · exact h1 b q
    · exact .inr (Nat.le_trans h.grow q)⟩
  fge := h2
  os := hk.os.trans h.os
  tape := hk.tape.trans h.tape
  output := hk.output.trans h.output
  grow := Nat.le_trans h.grow hk.grow
  keep b hb hn := by
    rw [hk.keep b (Nat.lt_of_lt_of_le hb h.grow) (fun hm => by
      rcases hM b hm with q | q
      · exact hn q
      · omega), h.keep b hb hn]

/-- Rows and captured variables are fixed. -/
def Fixable (s : St) (r : Nat) : Prop := (∃ e xs fz, s.bs r = .vec e xs fz) ∨ ∃ cs ps, s.bs r = .vars cs ∧ pcsOf cs = some ps
def blkOf (bs : Nat → Blk) (E : Env) (r : Nat) : Option Nat :=
  match bs r with
  | .vars _ => some (E.σ r)
  | .vec _ _ _ => (E.sv r).ownBlock
  | _ => none

theorem pcOf_sound {bs : Nat → Blk} {w : World} {E : Env} {c : Cell} {x : PC} {y : Value} (h : pcOf c = some x) (hc : RC bs w E c y) : RPC w E.F x y := by
  unfold pcOf at h
  split at h
  · cases h; exact hc
  · cases h
    exact ⟨none, 0, hc, Nat.le_refl _, by simp, by simp, 0, by simp, by simp⟩
  · cases h
    obtain ⟨p, q, e, q1, q2⟩ := hc
    have hp : p = #[] := by
      cases hq : p.toList with
      | nil => exact Array.toList_eq_nil_iff.1 hq
      | cons a b => rw [hq] at q1; exact q1.elim
    have hq : q = #[] := by
      cases hq : q.toList with
      | nil => exact Array.toList_eq_nil_iff.1 hq
      | cons a b => rw [hq] at q2; exact q2.elim
    simp only [RPC, e, hp, hq]
  · cases h
theorem pcsOf_sound {bs : Nat → Blk} {w : World} {E : Env} : ∀ {cs : List Cell} {ps : List PC} {us : List Value}, pcsOf cs = some ps → A2 (RC1 bs w E) cs us → A2 (fun c u => RPC w E.F c u ∧ u.oneCell' = true) ps us
  | [], ps, [], h, _ => by simp [pcsOf] at h; subst h; trivial
  | c :: cs, ps, u :: us, h, hA => by
    simp only [pcsOf] at h
    split at h
    · rename_i x m h1 h2
      cases h
      exact ⟨⟨pcOf_sound h1 hA.1.1, hA.1.2⟩, pcsOf_sound h2 hA.2⟩
    · cases h

theorem Sim.fix (hs : Sim G.T X s a w E) {rs : List Nat} (hrs : ∀ r ∈ rs, Fixable s r) (hlo : (rs.all fun r => Nat.ble s.lo r) = true) :
    Sim G.T X { s with bs := updL s.bs (rs.map fun r => (r, fixB s r)) } a w ⟨E.σ, E.sv, fun b => E.F b ∨ ∃ r ∈ rs, blkOf s.bs E r = some b⟩ := by
  have hF1 : ∀ b, E.F b → E.F b ∨ ∃ r ∈ rs, blkOf s.bs E r = some b := fun b hb => .inl hb
  have hf : FExt w E.F w (fun b => E.F b ∨ ∃ r ∈ rs, blkOf s.bs E r = some b) := ⟨hF1, fun _ _ => rfl⟩
  have hbs : ∀ q, updL s.bs (rs.map fun r => (r, fixB s r)) q = if q ∈ rs then fixB s q else s.bs q := updL_map s.bs (fixB s) rs
  have hb : BExt s.bs E (updL s.bs (rs.map fun r => (r, fixB s r))) ⟨E.σ, E.sv, fun b => E.F b ∨ ∃ r ∈ rs, blkOf s.bs E r = some b⟩ := by
    intro q hq
    rw [hbs]
    by_cases hm : q ∈ rs
    · rw [if_pos hm]
      rcases hrs q hm with ⟨e, xs, fz, h1⟩ | ⟨cs, ps, h1, h2⟩
      · have hx : fixB s q = .vec e xs true := by simp [fixB, h1]
        rw [hx]
        exact ⟨e, xs, fz, h1, Nat.le_refl _, fun _ => ⟨rfl, fun k hk => hk⟩⟩
      · have hx : fixB s q = .imm ps := by simp [fixB, h1, h2]
        rw [hx]
        exact ⟨.inl ⟨cs, .inl h1⟩, rfl⟩
    · rw [if_neg hm]
      have := BExt.refl s.bs E q hq
      cases h : s.bs q with
      | none => exact (hq h).elim
      | _ => rw [h] at this; exact this
  have hmb : ∀ q b, mblk (updL s.bs (rs.map fun r => (r, fixB s r))) ⟨E.σ, E.sv, fun b => E.F b ∨ ∃ r ∈ rs, blkOf s.bs E r = some b⟩ q = some b → q ∉ rs ∧ mblk s.bs E q = some b := by
    intro q b h
    unfold mblk at h
    rw [hbs] at h
    by_cases hm : q ∈ rs
    · rw [if_pos hm] at h
      rcases hrs q hm with ⟨e, xs, fz, h1⟩ | ⟨cs, ps, h1, h2⟩
      · simp [fixB, h1] at h
      · simp [fixB, h1, h2] at h
    · rw [if_neg hm] at h
      exact ⟨hm, h⟩
  -- a fixed block's place was no other one's
  have hblk : ∀ r' ∈ rs, ∀ b, blkOf s.bs E r' = some b → E.F b ∨ mblk s.bs E r' = some b := by
    intro r' hr' b h
    rcases hrs r' hr' with ⟨e, xs, fz, h1⟩ | ⟨cs, ps, h1, h2⟩
    · simp only [blkOf, h1] at h
      cases fz with
      | true =>
        have := hs.bl.blk r'
        rw [h1] at this
        exact .inl (this.2.2.2.2 rfl b h)
      | false => exact .inr (by simp [mblk, h1, h])
    · simp only [blkOf, h1] at h
      exact .inr (by simp [mblk, h1, h])
  have hnew : ∀ q b, q ∉ rs → mblk s.bs E q = some b → ¬ (E.F b ∨ ∃ r ∈ rs, blkOf s.bs E r = some b) := by
    rintro q b hq hqb (h | ⟨r', hr', h⟩)
    · exact (hs.bl.mt q b hqb).1 h
    · rcases hblk r' hr' b h with h | h
      · exact (hs.bl.mt q b hqb).1 h
      · exact hq (hs.bl.inj q r' b hqb h ▸ hr')
  have hall : ∀ r ∈ rs, s.lo ≤ r := fun r hr => Nat.le_of_ble_eq_true (List.all_eq_true.1 hlo r hr)
  have hin : ∀ r' ∈ rs, ∀ b, blkOf s.bs E r' = some b → b < w.heap.size ∧ (X.F b ∨ X.w.heap.size ≤ b) := by
    intro r' hr' b h
    rcases hblk r' hr' b h with h | h
    · exact hs.fr.flt b h
    · refine ⟨(hs.bl.mt r' b h).2, ?_⟩
      rcases hs.own r' b h with q | q
      · have := hall r' hr'; omega
      · exact .inr q
  exact
    { defers := hs.defers
      size := hs.size
      tm := fun d => (hs.tm d).ext hf hb
      bl :=
        { blk := fun q => by
            have hq := hs.bl.blk q
            show RB G.T (updL s.bs (rs.map fun r => (r, fixB s r))) w _ q (updL s.bs (rs.map fun r => (r, fixB s r)) q)
            rw [hbs]
            by_cases hm : q ∈ rs
            · rw [if_pos hm]
              rcases hrs q hm with ⟨e, xs, fz, h1⟩ | ⟨cs, ps, h1, h2⟩
              · rw [h1] at hq
                simp only [fixB, h1]
                exact ⟨hq.1, hq.2.1, hq.2.2.1, hq.2.2.2.1, fun _ b hb => .inr ⟨q, hm, by simp [blkOf, h1, hb]⟩⟩
              · rw [h1] at hq
                simp only [fixB, h1, h2]
                obtain ⟨ar, ty, q1, q2⟩ := hq
                exact ⟨.inr ⟨q, hm, by simp [blkOf, h1]⟩, ar, ty, (0, 0), q1, (pcsOf_sound h2 q2).mono fun _ _ hx => ⟨hx.1.ext hf, hx.2⟩⟩
            · rw [if_neg hm]
              exact hq.keep (E' := ⟨E.σ, E.sv, fun b => E.F b ∨ ∃ r ∈ rs, blkOf s.bs E r = some b⟩) hf hb rfl rfl fun _ _ => rfl
          inj := fun q q' b h h' => hs.bl.inj q q' b (hmb q b h).2 (hmb q' b h').2
          mt := fun q b h => ⟨hnew q b (hmb q b h).1 (hmb q b h).2, (hs.bl.mt q b (hmb q b h).2).2⟩ }
      own := fun q b h => hs.own q b (hmb q b h).2
      fr :=
        { flt := fun b hb => by
            rcases hb with h | ⟨r', hr', h⟩
            · exact hs.fr.flt b h
            · exact hin r' hr' b h
          fge := fun b hb => .inl (hs.fr.fge b hb)
          os := hs.fr.os
          tape := hs.fr.tape
          output := hs.fr.output
          grow := hs.fr.grow
          keep := hs.fr.keep }
      hist := hs.hist.trans hb
      old := hs.old
      mo := hs.mo }

/-- Behind a call that was handed no place to write to: what it gives says nothing of memory. -/
theorem after_callA (hs : Sim G.T X s a w E) {F1 : Nat → Prop} {w' : World} {E1 : Env} (hfr : Frame ⟨w, F1, fun _ => False⟩ w' E1.F)
    {r : AV} {v : Value} (hv : RA (fun _ => .none) w' E1 r v) (hn : noSlA r = true) (dst : Option Nat) : Sim G.T X (s.app dst ⟨r, [], s.nx⟩) (a.put dst v) w' E := by
  have hh : ∀ b, b < w.heap.size → w'.heap[b]? = w.heap[b]? := fun b hb => hfr.keep b hb (fun h => h)
  have hFl : ∀ b, E.F b → b < w.heap.size := fun b hb => (hs.fr.flt b hb).1
  have hf : FExt w E.F w' E.F := ⟨fun _ h => h, fun b hb => hh b (hFl b hb)⟩
  refine hs.step dst hf (BExt.refl _ _) (noSlA_ext hn hv) (hs.bl.heap hh hfr.grow hFl) hs.own ?_
  exact { flt := fun b hb => ⟨Nat.lt_of_lt_of_le (hFl b hb) hfr.grow, (hs.fr.flt b hb).2⟩, fge := hs.fr.fge, os := hfr.os.trans hs.fr.os, tape := hfr.tape.trans hs.fr.tape,
          output := hfr.output.trans hs.fr.output, grow := Nat.le_trans hs.fr.grow hfr.grow,
          keep := fun b hb hn => (hh b (Nat.lt_of_lt_of_le hb hs.fr.grow)).trans (hs.fr.keep b hb hn) }

/-- What it gives may lie in what it was handed, or in new memory: all that is fixed. -/
theorem after_callB (hs : Sim G.T X s a w E) {w' : World} {E1 : Env} (hfr : Frame ⟨w, E.F, fun _ => False⟩ w' E1.F)
    {r : AV} {v : Value} (hv : RA (fun _ => .none) w' E1 r v) (dst : Option Nat) : Sim G.T X (s.app dst ⟨r, [], s.nx⟩) (a.put dst v) w' ⟨E.σ, E.sv, E1.F⟩ := by
  have hh : ∀ b, b < w.heap.size → w'.heap[b]? = w.heap[b]? := fun b hb => hfr.keep b hb (fun h => h)
  have hFl : ∀ b, E.F b → b < w.heap.size := fun b hb => (hs.fr.flt b hb).1
  have hF1 : ∀ b, E.F b → E1.F b := hfr.fge
  have hf : FExt w E.F w' E1.F := ⟨hF1, fun b hb => hh b (hFl b hb)⟩
  have f1 : FExt w' E.F w' E1.F := ⟨hF1, fun _ _ => rfl⟩
  have hb : BExt s.bs E s.bs ⟨E.σ, E.sv, E1.F⟩ := BExt.refl s.bs E
  have hbl := hs.bl.heap hh hfr.grow hFl
  refine hs.step dst (bl := []) hf hb (RA.ext (E := E1) (E' := ⟨E.σ, E.sv, E1.F⟩) (FExt.refl _ _) (BExt.ofNone _ _ _) hv) ⟨fun q => ?_, hs.bl.inj, fun q b h => ?_⟩ hs.own ?_
  · have hq := hbl.blk q
    show RB G.T s.bs w' _ q (s.bs q)
    exact hq.keep (E' := ⟨E.σ, E.sv, E1.F⟩) f1 hb rfl rfl fun _ _ => rfl
  · refine ⟨fun hF => ?_, Nat.lt_of_lt_of_le (hs.bl.mt q b h).2 hfr.grow⟩
    have hlt := (hs.bl.mt q b h).2
    rcases (hfr.flt b hF).2 with h1 | h1
    · exact (hs.bl.mt q b h).1 h1
    · simp only at h1; omega
  · exact Frame.trans hs.fr hfr (fun b hm => hm.elim) (fun b h => (hs.fr.flt b h).2) (fun b h => hF1 b (hs.fr.fge b h))
end
end Go.Fw
/- New variables and stores. -/
namespace Go.Fw
open Go Go.RowKit
section
variable {G : Cfg} {X : Ctx2} {s : St} {a : Act} {w : World} {E : Env}

theorem size_alloc (w : World) (o : Obj) : (w.alloc o).heap.size = w.heap.size + 1 := by
  show (w.heap.push o).size = _
  simp

theorem alloc_step (hs : Sim G.T X s a w E) {r : Nat} (hr : s.bs r = .none) {cs : List Cell} {ar : Array Value} (ty : TypeId) (hA : A2 (RC1 s.bs w E) cs ar.toList) (dst : Option Nat) (nx : Nat) (tv : Bool := false) :
    Sim G.T X (s.app dst ⟨.one (.ptr r 0), [(r, vb tv ty cs)], nx⟩) (a.put dst (.pointer (some ⟨w.heap.size, 0, none⟩))) (w.alloc (.cells ar ty)) ⟨upd E.σ r w.heap.size, E.sv, E.F⟩ := by
  have hFl : ∀ b, E.F b → b < w.heap.size := fun b hb => (hs.fr.flt b hb).1
  have hold : ∀ b, b < w.heap.size → (w.alloc (.cells ar ty)).heap[b]? = w.heap[b]? := fun b hb => heap_alloc_old w _ b hb
  have hf : FExt w E.F (w.alloc (.cells ar ty)) E.F := ⟨fun _ h => h, fun b hb => hold b (hFl b hb)⟩
  have hne : ∀ q, s.bs q ≠ .none → q ≠ r := fun q hq e => hq (e ▸ hr)
  have hb : BExt s.bs E (upd s.bs r (vb tv ty cs)) ⟨upd E.σ r w.heap.size, E.sv, E.F⟩ := by
    intro q hq
    exact BExtAt.same (upd_ne _ _ (hne q hq)) (upd_ne _ _ (hne q hq)) rfl hq
  have hm : ∀ q b, mblk (upd s.bs r (vb tv ty cs)) ⟨upd E.σ r w.heap.size, E.sv, E.F⟩ q = some b → (q = r ∧ b = w.heap.size) ∨ (q ≠ r ∧ mblk s.bs E q = some b) := by
    intro q b h
    by_cases e : q = r
    · subst e
      cases tv <;> simp [mblk, upd_same, vb] at h <;> exact .inl ⟨rfl, h.symm⟩
    · refine .inr ⟨e, ?_⟩
      unfold mblk at h ⊢
      rw [upd_ne _ _ e] at h
      simp only [upd_ne _ _ e] at h
      exact h
  refine hs.step dst (bl := [(r, vb tv ty cs)]) hf hb ⟨?_, rfl⟩ ⟨fun q => ?_, fun q q' b h h' => ?_, fun q b h => ?_⟩ (fun q b h => ?_) ?_
  · cases tv <;> simp [RC, updL, upd_same, vb]
  · show RB G.T (upd s.bs r (vb tv ty cs)) _ _ q (upd s.bs r (vb tv ty cs) q)
    by_cases e : q = r
    · subst e
      rw [upd_same]
      have h2 := hA.mono fun _ _ => RC1.ext (E := E) (E' := ⟨upd E.σ q w.heap.size, E.sv, E.F⟩) hf hb
      have h1 : (w.alloc (.cells ar ty)).heap[upd E.σ q w.heap.size q]? = some (.cells ar ty) := by rw [upd_same]; exact heap_alloc_new w _
      cases tv
      · exact ⟨ar, ty, h1, h2⟩
      · exact ⟨ar, h1, h2⟩
    · rw [upd_ne _ _ e]
      exact ((hs.bl.blk q).heap hold hFl).keep (E' := ⟨upd E.σ r w.heap.size, E.sv, E.F⟩) (FExt.refl _ _) hb (upd_ne _ _ e) rfl fun _ _ => rfl
  · rcases hm q b h with ⟨e1, e2⟩ | ⟨e1, h1⟩ <;> rcases hm q' b h' with ⟨e3, e4⟩ | ⟨e3, h3⟩
    · rw [e1, e3]
    · have := (hs.bl.mt q' b h3).2; omega
    · have := (hs.bl.mt q b h1).2; omega
    · exact hs.bl.inj q q' b h1 h3
  · rcases hm q b h with ⟨e1, e2⟩ | ⟨e1, h1⟩
    · exact ⟨fun hF => by have := hFl b hF; omega, by rw [size_alloc]; omega⟩
    · exact ⟨(hs.bl.mt q b h1).1, by rw [size_alloc]; have := (hs.bl.mt q b h1).2; omega⟩
  · rcases hm q b h with ⟨e1, e2⟩ | ⟨e1, h1⟩
    · exact .inr (by rw [e2]; exact hs.fr.grow)
    · exact hs.own q b h1
  · exact { flt := fun b hb => ⟨by rw [size_alloc]; have := (hs.fr.flt b hb).1; omega, (hs.fr.flt b hb).2⟩, fge := hs.fr.fge, os := hs.fr.os, tape := hs.fr.tape, output := hs.fr.output,
            grow := by rw [size_alloc]; exact Nat.le_succ_of_le hs.fr.grow,
            keep := fun b hb hn => (hold b (Nat.lt_of_lt_of_le hb hs.fr.grow)).trans (hs.fr.keep b hb hn) }

/-- A variable's cells are written. -/
theorem store_step (hs : Sim G.T X s a w E) {r : Nat} {cs : List Cell} (hr : s.bs r = .vars cs) {off : Nat} {vs : List Cell} {us : List Value} (hA : A2 (RC1 s.bs w E) vs us) (hl : off + vs.length ≤ cs.length)
    (dst : Option Nat) (u : Value) : ∃ w', (∀ P : Program, (storeCells ⟨E.σ r, off, none⟩ us).run P w = .ok () w') ∧
      Sim G.T X (s.app dst ⟨.junk, [(r, .vars (setAt cs off vs))], s.nx⟩) (a.put dst u) w' E := by
  have hq := hs.bl.blk r
  rw [hr] at hq
  obtain ⟨ar, ty, hh, hA0⟩ := hq
  have hlen := hA.length
  have hlen0 := hA0.length
  have hmr : mblk s.bs E r = some (E.σ r) := by simp [mblk, hr]
  have h1 : ∀ v ∈ us, v.oneCell' = true := hA.all_right (p := fun v => v.oneCell' = true) fun _ _ h => h.2
  refine ⟨w.setRow (E.σ r) (setAt ar.toList off us).toArray, fun P => ?_, ?_⟩
  · have h := run_storeCells_at P (E.σ r) off ty us 0 ar w hh (by simp at hlen0; omega) h1
    rw [h]
    simp only [Nat.add_zero]
    rw [setAt_spec _ _ _ (by simp at hlen0 ⊢; omega)]
  have hother : ∀ b, b ≠ E.σ r → (w.setRow (E.σ r) (setAt ar.toList off us).toArray).heap[b]? = w.heap[b]? := fun b hb => setRow_other w _ b _ hb
  have hnF : ¬ E.F (E.σ r) := (hs.bl.mt r _ hmr).1
  have hf : FExt w E.F (w.setRow (E.σ r) (setAt ar.toList off us).toArray) E.F := ⟨fun _ h => h, fun b hb => hother b (fun e => hnF (e ▸ hb))⟩
  have hb : BExt s.bs E (upd s.bs r (.vars (setAt cs off vs))) E := by
    intro q hq
    by_cases e : q = r
    · subst e; rw [upd_same]; exact ⟨⟨cs, .inl hr⟩, rfl⟩
    · rw [upd_ne _ _ e]
      have := BExt.refl s.bs E q hq
      cases h : s.bs q with
      | none => exact (hq h).elim
      | _ => rw [h] at this; exact this
  have hm : ∀ q b, mblk (upd s.bs r (.vars (setAt cs off vs))) E q = some b → mblk s.bs E q = some b := by
    intro q b h
    by_cases e : q = r
    · subst e; simp [mblk, upd_same] at h; rw [← h]; exact hmr
    · unfold mblk at h ⊢
      rw [upd_ne _ _ e] at h
      exact h
  refine hs.step dst (bl := [(r, .vars (setAt cs off vs))]) hf hb (RA_junk _ _) ⟨fun q => ?_, fun q q' b h h' => hs.bl.inj q q' b (hm q b h) (hm q' b h'), fun q b h => ?_⟩ (fun q b h => hs.own q b (hm q b h)) ?_
  · show RB G.T (upd s.bs r (.vars (setAt cs off vs))) _ _ q (upd s.bs r (.vars (setAt cs off vs)) q)
    by_cases e : q = r
    · subst e
      rw [upd_same]
      refine ⟨_, ty, setRow_heap w _ ar _ ty _ hh, ?_⟩
      exact (hA0.setAt off hA).mono fun _ _ => RC1.ext hf hb
    · rw [upd_ne _ _ e]
      have hq := hs.bl.blk q
      refine hq.keep hf hb rfl rfl fun g hg => hother g fun he => ?_
      subst he
      exact hs.bl.disj e hmr hg
  · have := hs.bl.mt q b (hm q b h)
    exact ⟨this.1, by rw [size_setRow]; exact this.2⟩
  · exact { flt := fun b hb => ⟨by rw [size_setRow]; exact (hs.fr.flt b hb).1, (hs.fr.flt b hb).2⟩, fge := hs.fr.fge, os := hs.fr.os, tape := hs.fr.tape, output := hs.fr.output,
            grow := by rw [size_setRow]; exact hs.fr.grow,
            keep := fun b hb hn => by
              rw [hother b (fun he => ?_)]
              · exact hs.fr.keep b hb hn
              · rcases hs.own r _ hmr with q | q
                · exact hn (he ▸ hs.mo _ _ q.2)
                · omega }
end
end Go.Fw
/- Each operation runs well. -/
namespace Go.Fw
open Go Go.RowKit

/-- What is left of a state when a panic leaves the call. -/
def PanQ (X : Ctx2) (Pp : Value → Prop) (Qc : Exit → Act → World → Prop) : Prop :=
  ∀ v a' w' F', Pp v → a'.defers = X.df → Frame X.toCtx w' F' → Qc (.panic [{ v, recovered := false }]) a' w'

section
variable {P : Program} {G : Cfg} (ht : TOK P G.T) {X : Ctx2} {s : St} {a : Act} {w : World} {E : Env} {C : CallRel} {J : Inl} {Pp : Value → Prop} {Qc : Exit → Act → World → Prop} {K : Eff → Prop}

/-- The state behind. -/
def Nxt (G : Cfg) (X : Ctx2) (s : St) (dst : Option Nat) (K : Eff → Prop) (a' : Act) (w' : World) : Prop := ∃ e E', K e ∧ Sim G.T X (s.app dst e) a' w' E'

theorem fin_pure (hs : Sim G.T X s a w E) (o : Oper) {v : AV} {val : Value} (hrun : (execOp a.eval o).run P w = .ok (.value val) w) (hv : RA s.bs w E v val) (hK : K ⟨v, [], s.nx⟩) :
    o.upon P a (Nxt G X s o.dst K) Qc ((execOp a.eval o).run P w) := by
  rw [hrun]
  exact ⟨_, E, hK, hs.pure o.dst hv⟩

theorem binRun {op : BinOp} {t ty : TypeId} {x y : Operand} {dst : Option Nat} {ty' : TypeId} {pos : String} {after : Array Edge} {guard : Option (Nat × Bool)} {u v r : Value}
    (hu : a.eval x = u) (hv : a.eval y = v) (hg : (eqGuard op t x y u v).run P w = .ok () w) (hb : (binOp op t u v).run P w = .ok r w) :
    (execOp a.eval ⟨dst, .binOp op t x y ty, ty', pos, after, guard⟩).run P w = .ok (.value r) w := by
  simp [execOp, hu, hv, hg, hb]

theorem eqGuard_plain {op : BinOp} {t : TypeId} {x y : Operand} {u v : Value} (h1 : u ≠ .nilIface) (h2 : ∀ cs, u ≠ .agg cs) : (eqGuard op t x y u v).run P w = .ok () w := by
  unfold eqGuard
  cases u <;> first
    | exact absurd rfl h1
    | exact absurd rfl (h2 _)
    | simp

theorem arI_run {op : BinOp} {k : IntKind} {t : TypeId} {x y n : Int} (h : arI op k x y = some n) : (binOp op t (.int k x) (.int k y)).run P w = .ok (.int k n) w := by
  cases op <;> simp only [arI] at h <;> cases h <;> simp [binOp, Op.intArith, Op.intBits]
theorem cmpI_run {op : BinOp} {k : IntKind} {t : TypeId} {x y : Int} {b : Bool} (h : cmpI op x y = some b) : (binOp op t (.int k x) (.int k y)).run P w = .ok (.bool b) w := by
  cases op <;> simp only [cmpI] at h <;> cases h <;> (simp only [binOp, ne_eq, not_true_eq_false, if_false, Op.intCmp]; rfl)
theorem arC_run {op : BinOp} {k k' : IntKind} {t : TypeId} {x y n : Int} {p : Prop} (h : arC op k k' x y = some (p, n)) (hp : p) : (binOp op t (.int k x) (.int k' y)).run P w = .ok (.int k n) w := by
  cases op <;> simp only [arC] at h
  case quo =>
    split at h
    · rename_i e; subst e; cases h; simp [binOp, Op.intDiv, hp]
    · cases h
  case rem =>
    split at h
    · rename_i e; subst e; cases h; simp [binOp, Op.intDiv, hp]
    · cases h
  case shl => cases h; simp [binOp, Op.shift, Int.not_lt.2 hp]
  case shr => cases h; simp [binOp, Op.shift, Int.not_lt.2 hp]
  all_goals cases h

theorem toList_mk (l : Str) : (⟨⟨l⟩⟩ : ByteArray).toList = l := ByteArray.toList_eq _
theorem beq_dec (x y : Str) : (x == y) = decide (x = y) := by by_cases h : x = y <;> simp [h]
theorem cmpS_run {op : BinOp} {t : TypeId} {x y : Str} {b : Bool} (h : cmpS op x y = some b) : (binOp op t (vS x) (vS y)).run P w = .ok (.bool b) w := by
  cases op <;> simp only [cmpS] at h <;> cases h <;> simp [binOp, Op.stringOp, toList_mk, beq_dec]
theorem addS_run {t : TypeId} {x y : Str} (h : x.length + y.length ≤ 9223372036854775807) : (binOp .add t (vS x) (vS y)).run P w = .ok (vS (x ++ y)) w := by
  have h1 : ¬ (((x.length + y.length : Nat) : Int) > IntKind.i64.max) := by
    have : IntKind.i64.max = 9223372036854775807 := by decide
    rw [this]; omega
  have h2 : (⟨⟨x⟩⟩ : ByteArray) ++ (⟨⟨y⟩⟩ : ByteArray) = ⟨⟨x ++ y⟩⟩ := by
    apply ByteArray.ext
    simp [ByteArray.data_append]
  simp only [binOp, Op.stringOp]
  have hs1 : (⟨⟨x⟩⟩ : ByteArray).size = x.length := rfl
  have hs2 : (⟨⟨y⟩⟩ : ByteArray).size = y.length := rfl
  rw [hs1, hs2, if_neg h1, h2]
  rfl

theorem equalIn_bool (d : Nat) {t : TypeId} {x y : Bool} (hk : P.underlying t = some .bool) : (Op.equalIn (d + 1) t (.bool x) (.bool y)).run P w = .ok (x == y) w := by
  simp [Op.equalIn, run_underlying hk]
theorem boolEq_run {t : TypeId} {x y : Bool} (hk : P.underlying t = some .bool) : (binOp .eql t (.bool x) (.bool y)).run P w = .ok (.bool (x == y)) w ∧ (binOp .neq t (.bool x) (.bool y)).run P w = .ok (.bool (!(x == y))) w := by
  have h : (Op.equal t (.bool x) (.bool y)).run P w = .ok (x == y) w := equalIn_bool 9999 hk
  constructor
  · simp only [binOp, Sem.run_bind, h, Result.andThen_ok]; rfl
  · simp only [binOp, Sem.run_bind, h, Result.andThen_ok]; rfl

include ht
theorem op_binOp (hs : Sim G.T X s a w E) (o : Oper) {op : BinOp} {t ty : TypeId} {x y : Operand} (ho : o.op = .binOp op t x y ty) {dr : Bool} (h : wpOp G C J dr o s Pp K) :
    o.upon P a (Nxt G X s o.dst K) Qc ((execOp a.eval o).run P w) := by
  obtain ⟨dst, op', ty', pos, after, guard⟩ := o
  simp only at ho
  subst ho
  have hx := hs.ev x
  have hy := hs.ev y
  simp only [wpOp] at h
  split at h
  · rename_i k u k' v e1 e2
    rw [e1] at hx
    rw [e2] at hy
    have gx := RA_val hx
    have gy := RA_val hy
    have hg := eqGuard_plain (P := P) (w := w) (op := op) (t := t) (x := x) (y := y) (u := .int k u) (v := .int k' v) (by simp) (by simp)
    split at h
    · rename_i p n hc
      obtain ⟨hp, hn⟩ := h
      exact fin_pure hs _ (binRun gx gy hg (arC_run hc hp)) (RA_val_mk _ rfl) (hn.h n rfl)
    · split at h
      · rename_i he
        subst he
        split at h
        · rename_i b hb
          exact fin_pure hs _ (binRun gx gy hg (cmpI_run hb)) (RA_val_mk _ rfl) (h.h b rfl)
        · split at h
          · rename_i n hn
            exact fin_pure hs _ (binRun gx gy hg (arI_run hn)) (RA_val_mk _ rfl) (h.h n rfl)
          · exact h.elim
      · exact h.elim
  · rename_i u v e1 e2
    rw [e1] at hx
    rw [e2] at hy
    have gx := RA_val hx
    have gy := RA_val hy
    have hg := eqGuard_plain (P := P) (w := w) (op := op) (t := t) (x := x) (y := y) (u := vS u) (v := vS v) (by simp) (by simp)
    split at h
    · rename_i b hb
      exact fin_pure hs _ (binRun gx gy hg (cmpS_run hb)) (RA_val_mk _ rfl) (h.h b rfl)
    · split at h
      · obtain ⟨hp, hn⟩ := h
        exact fin_pure hs _ (binRun gx gy hg (addS_run hp)) (RA_val_mk _ rfl) hn
      · exact h.elim
  · rename_i u v e1 e2
    rw [e1] at hx
    rw [e2] at hy
    have gx := RA_val hx
    have gy := RA_val hy
    have hg := eqGuard_plain (P := P) (w := w) (op := op) (t := t) (x := x) (y := y) (u := .bool u) (v := .bool v) (by simp) (by simp)
    split at h
    · rename_i hk
      have hk' : P.underlying t = some .bool := by
        have := (ht t (by rw [hk]; simp)).1
        rw [hk] at this
        unfold tkOf at this
        split at this <;> simp_all
      split at h
      · exact fin_pure hs _ (binRun gx gy hg (boolEq_run hk').1) (RA_val_mk _ rfl) (h.h _ rfl)
      · exact fin_pure hs _ (binRun gx gy hg (boolEq_run hk').2) (RA_val_mk _ rfl) (h.h _ rfl)
      · exact h.elim
    · exact h.elim
  · rename_i cs ds e1 e2
    rw [e1] at hx
    rw [e2] at hy
    obtain ⟨xs, hxv, hA⟩ := hx
    obtain ⟨ys, hyv, hB⟩ := hy
    split at h
    · rename_i e he
      unfold eqReq at he
      split at he
      · rename_i us vs g1 g2
        have q1 := valsOf_sound _ _ _ hA g1
        have q2 := valsOf_sound _ _ _ hB g2
        cases hc : (okT G t && (G.T t).eq && shapeVs (G.T t).zero.cells.toList us && shapeVs (G.T t).zero.cells.toList vs) with
        | false => rw [hc] at he; cases he
        | true =>
          rw [hc] at he
          simp only [Bool.and_eq_true] at hc
          obtain ⟨⟨⟨c0, c1⟩, c2⟩, c3⟩ := hc
          have hne := okT_ne ht c0
          have hq := (ht t hne).2.2.2.2.1 c1 w xs ys e (by rw [q1]; exact c2) (by rw [q2]; exact c3) (by rw [q1, q2]; exact he)
          split at h
          · exact fin_pure hs _ (binRun hxv hyv (hq.2.2 _ _ _) hq.1) (RA_val_mk _ rfl) (h.h _ rfl)
          · exact fin_pure hs _ (binRun hxv hyv (hq.2.2 _ _ _) hq.2.1) (RA_val_mk _ rfl) (h.h _ rfl)
          · exact h.elim
      · cases he
    · exact h.elim
  · exact h.elim
end
end Go.Fw
/- Rows of one's own: made, made longer, and written. -/
namespace Go.Fw
open Go Go.RowKit
section
variable {G : Cfg} {X : Ctx2} {s : St} {a : Act} {w : World} {E : Env}

/-- The block that a row of one's own has lain in. -/
def oldRow (s : St) (E : Env) (r : Nat) : Option Nat := mblk s.bs E r

/-- One block turns, or is new; all else stays. -/
theorem one_step (hs : Sim G.T X s a w E) {r : Nat} {b' : Blk} {w' : World} {E' : Env} (hE : ∀ q, q ≠ r → E'.σ q = E.σ q ∧ E'.sv q = E.sv q) (hF : E'.F = E.F)
    (hbx : BExtAt s.bs E (upd s.bs r b') E' r)
    (hos : w'.os = w.os) (htp : w'.tape = w.tape) (hout : w'.output = w.output) (hgrow : w.heap.size ≤ w'.heap.size)
    (hkeep : ∀ k, k < w.heap.size → some k ≠ oldRow s E r → w'.heap[k]? = w.heap[k]?)
    (hrb : BExt s.bs E (upd s.bs r b') E' → RB G.T (upd s.bs r b') w' E' r b')
    (hnew : ∀ b, mblk (upd s.bs r b') E' r = some b → (some b = oldRow s E r ∨ w.heap.size ≤ b) ∧ b < w'.heap.size)
    (dst : Option Nat) (nx : Nat) {v : AV} {val : Value} (hv : RA (upd s.bs r b') w' E' v val) :
    Sim G.T X (s.app dst ⟨v, [(r, b')], nx⟩) (a.put dst val) w' E' := by
  have hFl : ∀ b, E.F b → b < w.heap.size := fun b hb => (hs.fr.flt b hb).1
  have hnF : ∀ b, oldRow s E r = some b → ¬ E.F b := fun b hb => (hs.bl.mt r b hb).1
  have hFk : ∀ b, E.F b → w'.heap[b]? = w.heap[b]? := fun b hb => hkeep b (hFl b hb) fun he => hnF b he.symm hb
  have hf : FExt w E.F w' E'.F := ⟨fun _ h => by rw [hF]; exact h, hFk⟩
  have hb : BExt s.bs E (upd s.bs r b') E' := by
    intro q
    by_cases hqr : q = r
    · subst hqr; exact hbx
    · exact BExtAt.same (upd_ne _ _ hqr) (hE q hqr).1 (hE q hqr).2
  have hm : ∀ q b, mblk (upd s.bs r b') E' q = some b → (q = r ∧ mblk (upd s.bs r b') E' r = some b) ∨ (q ≠ r ∧ mblk s.bs E q = some b) := by
    intro q b h
    by_cases hqr : q = r
    · subst hqr; exact .inl ⟨rfl, h⟩
    · refine .inr ⟨hqr, ?_⟩
      unfold mblk at h ⊢
      rw [upd_ne _ _ hqr, (hE q hqr).1, (hE q hqr).2] at h
      exact h
  have hko : ∀ q b, q ≠ r → bblk (s.bs q) E q = some b → b < w.heap.size → w'.heap[b]? = w.heap[b]? := fun q b hqr hq hlt =>
    hkeep b hlt fun he => hs.bl.disj hqr he.symm hq
  refine hs.step dst (bl := [(r, b')]) hf hb hv ⟨fun q => ?_, fun q q' b h h' => ?_, fun q b h => ?_⟩ (fun q b h => ?_) ?_
  · show RB G.T (upd s.bs r b') _ _ q (upd s.bs r b' q)
    by_cases hqr : q = r
    · subst hqr
      rw [upd_same]
      exact hrb hb
    · rw [upd_ne _ _ hqr]
      have hq := hs.bl.blk q
      refine hq.keep hf hb (hE q hqr).1 (hE q hqr).2 fun g hg => ?_
      rcases Nat.lt_or_ge g w.heap.size with hlt | hge
      · exact hko q g hqr hg hlt
      · -- there is nothing yet
        exfalso
        have lt : ∀ {o : Obj}, w.heap[g]? = some o → False := fun {o} ho => by
          have := (Array.getElem?_eq_some_iff.1 ho).1; omega
        cases h : s.bs q with
        | vars cs => rw [h] at hq hg; obtain ⟨ar, ty, h1, h2⟩ := hq; cases hg; exact lt h1
        | imm cs => rw [h] at hq hg; obtain ⟨h0, ar, ty, fr, h1, h2⟩ := hq; cases hg; exact lt h1
        | vec e xs fz =>
          rw [h] at hq hg
          obtain ⟨h1, h2, h3, ho, h5⟩ := hq
          rcases ho.2 with hv | ⟨g', cap, cur, q1, q2, q3, q4⟩
          · simp [bblk, hv.1, Value.ownBlock] at hg
          · simp [bblk, q1, Value.ownBlock] at hg; subst hg; exact lt q3
        | buf e n0 ys =>
          rw [h] at hq hg
          obtain ⟨h1, h2, h3, h4, h5⟩ := hq
          rcases h5 with hv | ⟨g', cur, q0, q1, q2⟩
          · simp [bblk, hv.1, Value.ownBlock] at hg
          · simp [bblk, q0, Value.ownBlock] at hg; subst hg; exact lt q1
        | mapb kk es => rw [h] at hq hg; obtain ⟨ms, clock, h1, h2⟩ := hq; cases hg; exact lt h1
        | mapi kk isB m st => rw [h] at hq hg; obtain ⟨ms, clock, h1, h2⟩ := hq; cases hg; exact lt h1
        | iter l p => rw [h] at hq hg; cases hg; exact lt hq
        | lock D => rw [h] at hq hg; cases hg; exact lt hq.2
        | tvars t cs => rw [h] at hq hg; obtain ⟨ar, h1, h2⟩ := hq; cases hg; exact lt h1
        | chan c b cl => rw [h] at hq hg; obtain ⟨_, sn, rc, h2⟩ := hq; cases hg; exact lt h2
        | none => rw [h] at hg; cases hg
        | dead => rw [h] at hg; cases hg
  · have old : ∀ {q b}, mblk (upd s.bs r b') E' r = some b → q ≠ r → mblk s.bs E q = some b → False := by
      intro q b hv1 hqr hq
      rcases (hnew b hv1).1 with h1 | h1
      · exact hqr (hs.bl.inj q r b hq h1.symm)
      · have := (hs.bl.mt q b hq).2; omega
    rcases hm q b h with ⟨e1, h1⟩ | ⟨e1, h1⟩ <;> rcases hm q' b h' with ⟨e3, h3⟩ | ⟨e3, h3⟩
    · rw [e1, e3]
    · exact (old h1 e3 h3).elim
    · exact (old h3 e1 h1).elim
    · exact hs.bl.inj q q' b h1 h3
  · rcases hm q b h with ⟨e1, h1⟩ | ⟨e1, h1⟩
    · refine ⟨fun hF' => ?_, (hnew b h1).2⟩
      rw [hF] at hF'
      rcases (hnew b h1).1 with h2 | h2
      · exact hnF b h2.symm hF'
      · have := hFl b hF'; omega
    · rw [hF]; exact ⟨(hs.bl.mt q b h1).1, Nat.lt_of_lt_of_le (hs.bl.mt q b h1).2 hgrow⟩
  · rcases hm q b h with ⟨e1, h1⟩ | ⟨e1, h1⟩
    · rcases (hnew b h1).1 with h2 | h2
      · rw [e1]; exact hs.own r b h2.symm
      · exact .inr (Nat.le_trans hs.fr.grow h2)
    · exact hs.own q b h1
  · rw [hF]
    exact { flt := fun b hb => ⟨Nat.lt_of_lt_of_le (hFl b hb) hgrow, (hs.fr.flt b hb).2⟩, fge := hs.fr.fge, os := hos.trans hs.fr.os, tape := htp.trans hs.fr.tape, output := hout.trans hs.fr.output,
            grow := Nat.le_trans hs.fr.grow hgrow,
            keep := fun b hb hn => by
              rw [hkeep b (Nat.lt_of_lt_of_le hb hs.fr.grow) (fun he => ?_)]
              · exact hs.fr.keep b hb hn
              · rcases hs.own r b he.symm with q | q
                · exact hn (hs.mo _ _ q.2)
                · omega }

theorem vec_step (hs : Sim G.T X s a w E) {r e : Nat} (hr : s.bs r = .none ∨ ∃ xs, s.bs r = .vec e xs false)
    {xs' : List (List Value)} (hlen : ∀ xs, s.bs r = .vec e xs false → xs.length ≤ xs'.length) {w' : World} {v' : Value}
    (hsame : ∀ xs, s.bs r = .vec e xs false → xs.length = xs'.length → v' = E.sv r)
    (hos : w'.os = w.os) (htp : w'.tape = w.tape) (hout : w'.output = w.output) (hgrow : w.heap.size ≤ w'.heap.size)
    (hkeep : ∀ k, k < w.heap.size → some k ≠ oldRow s E r → w'.heap[k]? = w.heap[k]?)
    (hes : ∀ es ∈ xs', es.length = (G.T e).size ∧ ∀ u ∈ es, u.oneCell' = true) (hsz : 0 < (G.T e).size) (hmax : xs'.length ≤ 140737488355328)
    (hown : w'.ownsRow 0 e (G.T e).size v' xs'.length xs'.flatten) (hnew : ∀ b, v'.ownBlock = some b → some b = oldRow s E r ∨ w.heap.size ≤ b)
    (dst : Option Nat) (nx : Nat) {v : AV} {val : Value} (hv : RA (upd s.bs r (.vec e xs' false)) w' ⟨E.σ, upd E.sv r v', E.F⟩ v val) :
    Sim G.T X (s.app dst ⟨v, [(r, .vec e xs' false)], nx⟩) (a.put dst val) w' ⟨E.σ, upd E.sv r v', E.F⟩ := by
  refine one_step (b' := .vec e xs' false) (E' := ⟨E.σ, upd E.sv r v', E.F⟩) hs (fun q hq => ⟨rfl, upd_ne _ _ hq⟩) rfl ?_ hos htp hout hgrow hkeep (fun _ => ⟨hes, hsz, hmax, by simp only [upd_same]; exact hown, fun h => by cases h⟩) (fun b h => ?_) dst nx hv
  · intro hq
    rw [upd_same]
    rcases hr with h | ⟨xs, h⟩
    · exact (hq h).elim
    · refine ⟨e, xs, false, h, hlen xs h, fun hl => ⟨by simp only [upd_same]; exact hsame xs h hl, fun k hk es hes' => ?_⟩⟩
      have hB := hs.bl.blk r
      rw [h] at hB
      cases xs with
      | nil =>
        cases xs' with
        | nil => cases hes'
        | cons y ys => simp at hl
      | cons y ys =>
        rw [(hes es hes').1, ← (hB.1 y (by simp)).1]
        exact hk y (by simp)
  · simp only [mblk, upd_same] at h
    exact ⟨hnew b h, (hown.lt b h).2⟩

theorem ref_val {r e : Nat} {xs' : List (List Value)} {v' : Value} {w' : World} {n : Nat} (hn : n = xs'.length) (hown : w'.ownsRow 0 e (G.T e).size v' xs'.length xs'.flatten) :
    RA (upd s.bs r (.vec e xs' false)) w' ⟨E.σ, upd E.sv r v', E.F⟩ (.one (.ref r n)) v' := by
  refine ⟨?_, ?_⟩
  · simp only [RC, upd_same]
    exact ⟨by omega, fun _ => trivial⟩
  · show v'.oneCell' = true
    rcases hown.2 with ⟨rfl, _⟩ | ⟨g, cap, cur, rfl, _⟩ <;> rfl
end
end Go.Fw
/- Operations that ask for something: appending, slicing, and the like. -/
namespace Go.Fw
open Go Go.RowKit

theorem flatten_inv {α : Type} : ∀ (xs : List (List α)) (k : Nat), (∀ es ∈ xs, es.length = k) → ∀ j u, xs.flatten[j]? = some u → ∃ i es j', xs[i]? = some es ∧ es[j']? = some u ∧ j = i * k + j'
  | [], k, _, j, u, h => by simp at h
  | x :: xs, k, hk, j, u, h => by
    have hx := hk x (by simp)
    rw [List.flatten_cons] at h
    by_cases hj : j < x.length
    · rw [List.getElem?_append_left hj] at h
      exact ⟨0, x, j, rfl, h, by omega⟩
    · rw [List.getElem?_append_right (by omega)] at h
      obtain ⟨i, es, j', h1, h2, h3⟩ := flatten_inv xs k (fun es he => hk es (by simp [he])) _ _ h
      exact ⟨i + 1, es, j', by simpa using h1, h2, by rw [Nat.add_mul]; omega⟩
theorem flatten_len {α : Type} (k : Nat) : ∀ (xs : List (List α)), (∀ es ∈ xs, es.length = k) → xs.flatten.length = xs.length * k
  | [], _ => by simp
  | x :: xs, h => by
    rw [List.flatten_cons, List.length_append, flatten_len k xs (fun es he => h es (by simp [he])), h x (by simp), List.length_cons, Nat.add_mul]
    omega

section
variable {P : Program} {G : Cfg} (ht : TOK P G.T) {X : Ctx2} {s : St} {a : Act} {w : World} {E : Env}

/-- A slice whose elements may be read. -/
def Reads (w : World) (k : Nat) (ys : List (List Value)) (y : Value) : Prop :=
  ∃ ad cap, y = .slice ad ys.length cap ∧ (ad = none → ys = []) ∧ (∀ es ∈ ys, es.length = k ∧ ∀ u ∈ es, u.oneCell' = true) ∧ ∀ d, ad = some d → ∀ j u, ys.flatten[j]? = some u → w.cell? (d.add j) = some u

theorem RSl.reads {F : Nat → Prop} {xs : List (List Value)} {ex : Bool} {y : Value} (h : RSl w F xs ex y) {k : Nat} (hk : ∀ es ∈ xs, es.length = k) : Reads w k xs y := by
  obtain ⟨ad, cap, hy, _, _, _, k', h1, h2⟩ := h
  refine ⟨ad, cap, hy, fun hn => ?_, fun es he => ⟨hk es he, fun u hu => ?_⟩, fun d hd j u hj => ?_⟩
  · cases xs with
    | nil => rfl
    | cons x xs =>
      obtain ⟨b, o, e, _⟩ := h2 (by simp)
      rw [hn] at e; cases e
  · obtain ⟨i, hi⟩ := List.mem_iff_getElem?.1 he
    obtain ⟨j, hj⟩ := List.mem_iff_getElem?.1 hu
    obtain ⟨b, o, _, _, hc⟩ := h2 (fun e => by subst e; simp at he)
    exact (hc i es hi j u hj).1
  · obtain ⟨i, es, j', hi, hj', e⟩ := flatten_inv xs k' h1 j u hj
    obtain ⟨b, o, e1, _, hc⟩ := h2 (fun e => by subst e; simp at hi)
    rw [hd] at e1
    cases e1
    have := (hc i es hi j' u hj').2
    rw [addr_add, e, ← Nat.add_assoc]
    exact this
theorem vec_reads {T : Nat → TI} {bs : Nat → Blk} {r e : Nat} {xs : List (List Value)} {fz : Bool} (h : RB T bs w E r (.vec e xs fz)) : Reads w (T e).size xs (E.sv r) := by
  obtain ⟨h1, h2, h3, ho, _⟩ := h
  rcases ho.2 with ⟨hv, hn⟩ | ⟨g, cap, cur, hv, _, hh, hc, hm, hsz, htk⟩
  · exact ⟨none, 0, by rw [hv, hn], fun _ => List.eq_nil_of_length_eq_zero hn, h1, fun d hd => by cases hd⟩
  · refine ⟨some ⟨g, 0, none⟩, cap, hv, nofun, h1, fun d hd j u hj => ?_⟩
    cases hd
    exact ho.cells (g := g) (by rw [hv]; rfl) j u hj
theorem rowOf_sound (hs : Sim G.T X s a w E) {e : Nat} {x : AV} {y : Value} {ys : List (List Value)} {p : Prop} (h : rowOf G s e x = some (ys, p)) (hp : p) (hx : RA s.bs w E x y) : Reads w (G.T e).size ys y := by
  unfold rowOf at h
  split at h
  · cases h
    have hy : y = .slice none 0 0 := hx.1
    exact ⟨none, 0, hy, fun _ => rfl, by simp, by simp⟩
  · cases h
    exact RSl.reads hx.1 hp
  · cases h
    exact RSl.reads (ex := true) hx.1 hp
  · rename_i r n
    split at h
    · rename_i e' xs fz hr
      cases hq : Nat.beq e' e with
      | false => rw [hq] at h; cases h
      | true =>
        rw [hq] at h
        cases h
        have := Nat.eq_of_beq_eq_true hq
        subst this
        have hB := hs.bl.blk r
        rw [hr] at hB
        have hy : y = E.sv r := by
          have h1 := hx.1
          simp only [RC, hr] at h1
          exact h1.2 hp
        rw [hy]
        exact vec_reads hB
    · cases h
  · cases h

/-- The world when a slice has grown. -/
theorem grown_own {w : World} {e : TypeId} {size n m : Nat} (z : Value) (hzs : z.cells.size = size) (xs news : List Value) (hx : xs.length = n * size) (hl : news.length = m * size) (old : Nat) (ho : old < n + m) (h63 : n + m ≤ maxLen) :
    (w.drew.alloc (.cells (xs.toArray ++ news.toArray ++ Builtin.zeroCells z.cells (grownCap w (n + m) old e - (n + m))) e)).ownsRow 0 e size
      (.slice (some ⟨w.heap.size, 0, none⟩) (n + m) (grownCap w (n + m) old e)) (n + m) (xs ++ news) := by
  have hlen : (xs ++ news).length = (n + m) * size := by rw [List.length_append, hx, hl, Nat.add_mul]
  have hge := grownCap_ge w (n + m) old e
  have hcm : grownCap w (n + m) old e ≤ maxLen := grownCap_le_maxLen w (n + m) old e h63
  refine ⟨hlen, .inr ⟨w.heap.size, _, _, rfl, Nat.zero_le _, heap_alloc_new w.drew _, hge, hcm, ?_, ?_⟩⟩
  · simp only [Array.size_append, List.size_toArray, size_zeroCells, hzs, hx, hl, ← Nat.add_mul]
    congr 1
    omega
  · simp only [Array.toList_append, List.append_assoc]
    rw [← List.append_assoc, ← hlen]
    exact List.take_left

/-- Appending onto a row of one's own. -/
theorem append_own {t ty e : TypeId} (hu : P.underlying t = some (.slice e)) (i : TypeInfo) {z : Value} (hi : P.info? e = some i) (hz : i.zero = some z) (hzs : z.cells.size = i.size) (hsz : 0 < i.size)
    {v : Value} {n : Nat} {xs : List Value} (hown : w.ownsRow 0 e i.size v n xs) {ys : List (List Value)} {y : Value} (hy : Reads w i.size ys y) (hb : (n + ys.length) * i.bytes ≤ 140737488355328) (h63 : n + ys.length ≤ 140737488355328) :
    ∃ v' w', (Builtin.append_ #[t, t] ty #[v, y]).run P w = .ok v' w' ∧ w'.ownsRow 0 e i.size v' (n + ys.length) (xs ++ ys.flatten) ∧ w.grownBy w' v.ownBlock ∧ (ys = [] → v' = v) ∧ ∀ b, v'.ownBlock = some b → some b = v.ownBlock ∨ w.heap.size ≤ b := by
  obtain ⟨ad, cap, rfl, hn, hes, hc⟩ := hy
  have hmax : n + ys.length ≤ maxLen := by unfold maxLen; omega
  have hlen : ys.flatten.length = ys.length * i.size := flatten_len _ _ fun es he => (hes es he).1
  have h1 : ∀ u ∈ ys.flatten, u.oneCell' = true := fun u hu => by
    obtain ⟨es, he, hue⟩ := List.mem_flatten.1 hu
    exact (hes es he).2 u hue
  by_cases hy0 : ys = []
  · subst hy0
    refine ⟨v, w, ?_, by simpa using hown, ⟨rfl, rfl, rfl, Nat.le_refl _, fun _ _ _ => rfl⟩, fun _ => rfl, fun b hb => .inl hb.symm⟩
    rcases hown.2 with ⟨rfl, rfl⟩ | ⟨g, c, cur, rfl, _, hg, hnc, _⟩
    · cases ad <;> simp [Builtin.append_, run_underlying hu, sizeOf, typeInfo, hi, Builtin.lenOf, Builtin.firstCells, loadCells, loadCellsFrom]
    · cases ad <;> simp [Builtin.append_, run_underlying hu, sizeOf, typeInfo, hi, Builtin.lenOf, Builtin.firstCells, loadCells, loadCellsFrom, storeCells, hnc]
  · cases ad with
    | none => exact absurd (hn rfl) hy0
    | some d =>
      have hne : ∀ j u, ys.flatten[j]? = some u → w.cell? (d.add j) = some u := fun j u hj => hc d rfl j u hj
      rcases hown.2 with ⟨rfl, rfl⟩ | ⟨g, c, cur, rfl, _, hg, hnc, hcm, hcs, htk⟩
      · have hx : xs = [] := List.eq_nil_of_length_eq_zero (by simpa using hown.1)
        subst hx
        obtain ⟨v', w', q1, q2, q3, _⟩ := run_append_own (P := P) w w.heap.size t ty e i z i.size i.bytes hu hi hz rfl rfl hzs hsz _ 0 [] (World.ownsRow_nil w _ e i.size) d ys.length cap ys.flatten hlen hne h1 hmax hb (Nat.le_refl _)
        exact ⟨v', w', q1, ⟨q2.1, q2.2.imp (fun h => h) fun ⟨g, cap, cur, e1, _, rest⟩ => ⟨g, cap, cur, e1, Nat.zero_le _, rest⟩⟩, q3, fun h => absurd h hy0, fun b hb => .inr (q2.lt b hb).1⟩
      · obtain ⟨v', w', q1, q2, q3, _⟩ := run_append_own (P := P) w 0 t ty e i z i.size i.bytes hu hi hz rfl rfl hzs hsz _ n xs hown d ys.length cap ys.flatten hlen hne h1 hmax hb (Nat.zero_le _)
        refine ⟨v', w', q1, q2, q3, fun h => absurd h hy0, fun b hb' => ?_⟩
        by_cases hroom : n + ys.length ≤ c
        · have hr := run_append_room (P := P) w t ty e i hu hi g n c cur hg d ys.length cap ys.flatten hlen hne h1 hroom (by rw [hlen, hcs, ← Nat.add_mul]; exact Nat.mul_le_mul_right _ hroom)
          rw [hr] at q1
          cases q1
          exact .inl hb'.symm
        · have holds : ∀ j u, xs[j]? = some u → w.cell? ((⟨g, 0, none⟩ : Addr).add j) = some u := hown.cells (g := g) rfl
          have hr := run_append_grow (P := P) w t ty e i z hu hi hz ⟨g, 0, none⟩ n c xs hown.1 holds d ys.length cap ys.flatten hlen hne (by omega) (by omega) (growslice_fits (by omega) hb)
          rw [hr] at q1
          cases q1
          cases hb'
          exact .inr (Nat.le_refl _)

/-- Appending onto a slice that is full: a new row. -/
theorem append_full {t ty e : TypeId} (hu : P.underlying t = some (.slice e)) (i : TypeInfo) {z : Value} (hi : P.info? e = some i) (hz : i.zero = some z) (hzs : z.cells.size = i.size) (hsz : 0 < i.size)
    {xs ys : List (List Value)} {v y : Value} (hv : Reads w i.size xs v) (hfull : ∃ ad, v = .slice ad xs.length xs.length) (hy : Reads w i.size ys y) (hne : ys ≠ []) (hb : (xs.length + ys.length) * i.bytes ≤ 140737488355328) (h63 : xs.length + ys.length ≤ 140737488355328) :
    ∃ v' w', (Builtin.append_ #[t, t] ty #[v, y]).run P w = .ok v' w' ∧ w'.ownsRow 0 e i.size v' (xs.length + ys.length) (xs ++ ys).flatten ∧ w.grownBy w' none ∧ (∃ b, v'.ownBlock = some b ∧ w.heap.size ≤ b) := by
  obtain ⟨ad, cap, rfl, hn, hes, hc⟩ := hy
  obtain ⟨ad', cap', rfl, hn', hes', hc'⟩ := hv
  obtain ⟨q, hq⟩ := hfull
  cases hq
  have hpos : 0 < ys.length := by cases ys <;> simp_all
  have hlx : xs.flatten.length = xs.length * i.size := flatten_len _ _ fun es he => (hes' es he).1
  have hly : ys.flatten.length = ys.length * i.size := flatten_len _ _ fun es he => (hes es he).1
  cases ad with
  | none => exact absurd (hn rfl) hne
  | some d =>
    cases ad' with
    | none =>
      have hx := hn' rfl
      subst hx
      simp only [List.length_nil, Nat.zero_add, List.nil_append] at hb h63 ⊢
      refine ⟨_, _, run_append_nil (P := P) w t ty e i z hu hi hz d ys.length cap ys.flatten hly (fun j u hj => hc d rfl j u hj) hpos (by omega) (by omega), ?_, ⟨rfl, rfl, rfl, by simp, fun k hk _ => heap_alloc_old w.drew _ k hk⟩, ⟨_, rfl, Nat.le_refl _⟩⟩
      have := grown_own (w := w) (e := e) z hzs [] ys.flatten (n := 0) (m := ys.length) (by simp) hly 0 (by omega) (by unfold maxLen; omega)
      simpa using this
    | some d' =>
      refine ⟨_, _, run_append_grow (P := P) w t ty e i z hu hi hz d' xs.length xs.length xs.flatten hlx (fun j u hj => hc' d' rfl j u hj) d ys.length cap ys.flatten hly (fun j u hj => hc d rfl j u hj) (by omega) (by omega) (growslice_fits (by omega) hb), ?_, ⟨rfl, rfl, rfl, by simp, fun k hk _ => heap_alloc_old w.drew _ k hk⟩, ⟨_, rfl, Nat.le_refl _⟩⟩
      rw [List.flatten_append]
      exact grown_own (w := w) (e := e) z hzs xs.flatten ys.flatten hlx hly xs.length (by omega) (by unfold maxLen; omega)
end
end Go.Fw
/- Operations that ask for something run well. -/
namespace Go.Fw
open Go Go.RowKit

theorem setNth_len {α : Type} : ∀ (l : List α) (i : Nat) (v : α), (setNth l i v).length = l.length
  | [], _, _ => rfl
  | _ :: _, 0, _ => rfl
  | _ :: l, i + 1, v => by simp [setNth, setNth_len l i v]
theorem setNth_mem {α : Type} : ∀ (l : List α) (i : Nat) (v x : α), x ∈ setNth l i v → x = v ∨ x ∈ l
  | [], _, _, _, h => by simp [setNth] at h
  | a :: l, 0, v, x, h => by
    simp only [setNth, List.mem_cons] at h
    rcases h with h | h
    · exact .inl h
    · exact .inr (List.mem_cons_of_mem _ h)
  | a :: l, i + 1, v, x, h => by
    simp only [setNth, List.mem_cons] at h
    rcases h with h | h
    · exact .inr (by simp [h])
    · rcases setNth_mem l i v x h with h | h
      · exact .inl h
      · exact .inr (List.mem_cons_of_mem _ h)
theorem setAt_app {α : Type} : ∀ (l m : List α) (n : Nat) (vs : List α), setAt (l ++ m) (l.length + n) vs = l ++ setAt m n vs
  | [], m, n, vs => by simp
  | x :: l, m, n, vs => by
    have e : (x :: l).length + n = (l.length + n) + 1 := by simp; omega
    rw [e, List.cons_append]
    cases vs with
    | nil =>
      have : ∀ (l : List α) (n : Nat), setAt l n [] = l := by intro l n; cases l <;> cases n <;> rfl
      rw [this, this]; rfl
    | cons v vs =>
      show x :: setAt (l ++ m) (l.length + n) (v :: vs) = _
      rw [setAt_app l m n (v :: vs), List.cons_append]
theorem setAt_left {α : Type} : ∀ (l m : List α) (n : Nat) (vs : List α), n + vs.length ≤ l.length → setAt (l ++ m) n vs = setAt l n vs ++ m
  | l, m, n, [], _ => by
    have : ∀ (l : List α) (n : Nat), setAt l n [] = l := by intro l n; cases l <;> cases n <;> rfl
    rw [this, this]
  | [], m, n, v :: vs, h => by simp at h
  | x :: l, m, 0, v :: vs, h => by
    show v :: setAt (l ++ m) 0 vs = v :: (setAt l 0 vs ++ m)
    rw [setAt_left l m 0 vs (by simp at h ⊢; omega)]
  | x :: l, m, n + 1, v :: vs, h => by
    show x :: setAt (l ++ m) n (v :: vs) = x :: (setAt l n (v :: vs) ++ m)
    rw [setAt_left l m n (v :: vs) (by simp at h ⊢; omega)]
theorem flatten_set {α : Type} (k : Nat) : ∀ (xs : List (List α)) (i : Nat) (es vs : List α) (off : Nat), (∀ es ∈ xs, es.length = k) → xs[i]? = some es → off + vs.length ≤ k →
    (setNth xs i (setAt es off vs)).flatten = setAt xs.flatten (i * k + off) vs
  | [], i, es, vs, off, _, h, _ => by simp at h
  | x :: xs, 0, es, vs, off, hk, h, hl => by
    simp at h; subst h
    have := hk x (by simp)
    simp only [setNth, List.flatten_cons, Nat.zero_mul, Nat.zero_add]
    rw [setAt_left _ _ _ _ (by omega)]
  | x :: xs, i + 1, es, vs, off, hk, h, hl => by
    have hx := hk x (by simp)
    simp only [setNth, List.flatten_cons]
    rw [flatten_set k xs i es vs off (fun es he => hk es (by simp [he])) (by simpa using h) hl]
    have e : (i + 1) * k + off = x.length + (i * k + off) := by rw [hx, Nat.add_mul]; omega
    rw [e, setAt_app]

section
variable {P : Program} {G : Cfg} (ht : TOK P G.T) {X : Ctx2} {s : St} {a : Act} {w : World} {E : Env} {C : CallRel} {J : Inl} {Pp : Value → Prop} {Qc : Exit → Act → World → Prop} {K : Eff → Prop}

theorem idx_sound {xs : List (List Value)} {y : Value} (hx : RSl w E.F xs false y) {t e : Nat} (hk : (G.T t).k = .slice e) (hok : okT G e = true) {i : Int} {ik : IntKind} {es : List Value}
    (h0 : 0 ≤ i) (hes : xs[i.toNat]? = some es) (hl : es.length = sizeT G e) (ht : TOK P G.T) :
    ∃ val, (Instr.indexAt t y (.int ik i)).run P w = .ok val w ∧ RA s.bs w E (.one (.pv (es.map .v) 0)) val := by
  obtain ⟨ad, cap, hy, hc1, _, hlen, k, hk1, hk2⟩ := hx
  have hlt : i.toNat < xs.length := (List.getElem?_eq_some_iff.1 hes).1
  obtain ⟨b, o, rfl, hF, hcell⟩ := hk2 (by intro h; simp [h] at hlt)
  have hek : es.length = k := hk1 es (List.mem_of_getElem? hes)
  have hsz : (sizeOf e).run P w = .ok (sizeT G e) w := ht.sizeOf (okT_ne ht hok) w
  refine ⟨.pointer (some ⟨b, o + i.toNat * k, none⟩), ?_, ⟨⟨b, o + i.toNat * k, rfl, hF, fun j c hj => ?_⟩, rfl⟩⟩
  · have hi : 0 ≤ i ∧ i < (xs.length : Int) := ⟨h0, by omega⟩
    subst hy
    simp [Instr.indexAt, asIntOf, run_underlying (ht.slice hk), hi, hsz, addr_add, ← hl, hek]
  · rw [List.getElem?_map, Option.map_eq_some_iff] at hj
    obtain ⟨u, hu, rfl⟩ := hj
    have := hcell i.toNat es hes j u hu
    exact ⟨u, this.2, this.1, rfl⟩

omit ht in
theorem intOf_sound (hs : Sim G.T X s a w E) {x : Operand} {i : Int} (h : intOf (s.ev x) = some i) : ∃ k, a.eval x = .int k i := by
  have hx := hs.ev x
  unfold intOf at h
  split at h
  · rename_i k n he
    cases h
    rw [he] at hx
    exact ⟨k, RA_val hx⟩
  · cases h

include ht
/-- A row of one's own, and its bounds. -/
theorem append_sound (hs : Sim G.T X s a w E) (o : Oper) {c : Call} (ho : o.op = .call c) (hc : c.callee = .builtin .append) {x y : Operand} {t : Nat} (hargs : c.args = #[x, y]) (hts : c.argTypes = #[t, t])
    {e : Nat} (hk : (G.T t).k = .slice e) (hok : okT G e = true) (hsz : 0 < sizeT G e) {ys : List (List Value)} {p : Prop} (hr : rowOf G s e (s.ev y) = some (ys, p))
    {r : Req} (h : appendA G s e (s.ev x) ys p = some r) (hw : r.wp K) : o.upon P a (Nxt G X s o.dst K) Qc ((execOp a.eval o).run P w) := by
  obtain ⟨i, hi, his, hib, hiz⟩ := ht.info2 (okT_ne ht hok)
  have hu := ht.slice hk
  have hzc : ((G.T e).zero.cells).size = i.size := by
    rw [his, ← (ht e (okT_ne ht hok)).2.2.2.1]; simp
  have hpos : 0 < i.size := by rw [his]; exact hsz
  have hx := hs.ev x
  have hexec : (execOp a.eval o).run P w = (do pure (Next.value (← Builtin.append_ #[t, t] o.type #[a.eval x, a.eval y])) : Sem Next).run P w := by
    simp [execOp, ho, resolve, hc, invoke, builtin, hargs, hts]
  have fin : ∀ {v' w'}, (Builtin.append_ #[t, t] o.type #[a.eval x, a.eval y]).run P w = .ok v' w' → (execOp a.eval o).run P w = .ok (.value v') w' := by
    intro v' w' h
    rw [hexec]
    simp [Sem.run_bind, h]
  unfold appendA at h
  split at h
  · rename_i he
    rw [he] at hx
    have hxv : a.eval x = .slice none 0 0 := hx.1
    split at h
    · rename_i hnx
      cases h
      obtain ⟨⟨hp, hf⟩, hK⟩ := hw
      have hy := rowOf_sound hs hr hp (hs.ev y)
      rw [← his] at hy
      have hf1 := hf.1
      rw [← hib] at hf1
      obtain ⟨v', w', q1, q2, q3, q4, q5⟩ := append_own (P := P) (w := w) (ty := o.type) hu i hi hiz hzc hpos (World.ownsRow_nil w 0 e i.size) hy (by simpa using hf1) (by simpa using hf.2)
      rw [← hxv] at q1
      rw [fin q1]
      simp only [Nat.zero_add, List.nil_append] at q2
      rw [his] at q2
      obtain ⟨ad, cap, hyv, hyn, hes, _⟩ := hy
      refine ⟨_, _, hK, vec_step hs (e := e) (xs' := ys) (w' := w') (v' := v') (.inl hnx) (fun xs h => by rw [hnx] at h; cases h) (fun xs h => by rw [hnx] at h; cases h) q3.os q3.tape q3.output q3.size
        (fun k hk _ => q3.block k hk (by simp [Value.ownBlock])) (fun es he => by rw [← his]; exact hes es he) hsz hf.2 q2 (fun b hb => ?_) o.dst _ (ref_val rfl q2)⟩
      rcases q5 b hb with h | h
      · cases h
      · exact .inr h
    · cases h
  · rename_i xs he
    rw [he] at hx
    split at h
    · rename_i hnx
      cases h
      obtain ⟨⟨hp, hne, hxs, hf⟩, hK⟩ := hw
      have hy := rowOf_sound hs hr hp (hs.ev y)
      rw [← his] at hy
      have hf1 := hf.1
      rw [← hib] at hf1
      have hx1 : RSl w E.F xs true (a.eval x) := hx.1
      have hfull : ∃ ad, a.eval x = .slice ad xs.length xs.length := by
        obtain ⟨ad, cap, e1, _, e2, _⟩ := hx1
        exact ⟨ad, by rw [e1, e2 rfl]⟩
      have hxr := hx1.reads (k := i.size) (by rw [his]; exact hxs)
      obtain ⟨v', w', q1, q2, q3, b, q4, q5⟩ := append_full (P := P) (w := w) (ty := o.type) hu i hi hiz hzc hpos hxr hfull hy hne hf1 hf.2
      rw [fin q1]
      rw [his] at q2
      have hlen : (xs ++ ys).length = xs.length + ys.length := List.length_append
      rw [← hlen] at q2
      obtain ⟨_, _, _, _, hes, _⟩ := hy
      obtain ⟨_, _, _, _, hes', _⟩ := hxr
      refine ⟨_, _, hK, vec_step hs (e := e) (xs' := xs ++ ys) (w' := w') (v' := v') (.inl hnx) (fun xs h => by rw [hnx] at h; cases h) (fun xs h => by rw [hnx] at h; cases h) q3.os q3.tape q3.output q3.size
        (fun k hk _ => q3.block k hk (by simp)) (fun es he => ?_) hsz (by rw [hlen]; exact hf.2) q2 (fun b' hb => ?_) o.dst _ (ref_val hlen.symm q2)⟩
      · rw [← his]
        rcases List.mem_append.1 he with he | he
        · exact hes' es he
        · exact hes es he
      · rw [q4] at hb; cases hb; exact .inr q5
    · cases h
  · rename_i r n he
    rw [he] at hx
    split at h
    · rename_i e' xs hrr
      cases hq : Nat.beq e' e with
      | false => rw [hq] at h; cases h
      | true =>
        rw [hq] at h
        cases h
        have := Nat.eq_of_beq_eq_true hq
        subst this
        obtain ⟨⟨hp, hn, hf⟩, hK⟩ := hw
        have hy := rowOf_sound hs hr hp (hs.ev y)
        rw [← his] at hy
        have hf1 := hf.1
        rw [← hib] at hf1
        have hB := hs.bl.blk r
        rw [hrr] at hB
        have hv : a.eval x = E.sv r := by
          have h1 := hx.1
          simp only [RC, hrr] at h1
          exact h1.2 hn
        have hown := hB.2.2.2.1
        rw [← his, hn] at hown
        obtain ⟨v', w', q1, q2, q3, q4, q5⟩ := append_own (P := P) (w := w) (ty := o.type) hu i hi hiz hzc hpos hown hy hf1 hf.2
        rw [← hv] at q1
        rw [fin q1]
        rw [his] at q2
        have hlen : (xs ++ ys).length = n + ys.length := by rw [List.length_append, hn]
        rw [← List.flatten_append, ← hlen] at q2
        obtain ⟨_, _, _, _, hes, _⟩ := hy
        have hold : oldRow s E r = (E.sv r).ownBlock := by simp [oldRow, mblk, hrr]
        refine ⟨_, _, hK, vec_step hs (e := e') (xs' := xs ++ ys) (w' := w') (v' := v') (.inr ⟨xs, hrr⟩) (fun xs1 h => ?_) (fun xs1 h hl => ?_) q3.os q3.tape q3.output q3.size
          (fun k hk hne => q3.block k hk (by rw [← hold]; exact hne)) (fun es he => ?_) hsz (by rw [hlen]; exact hf.2) q2 (fun b' hb => ?_) o.dst _ (ref_val hlen.symm q2)⟩
        · rw [hrr] at h; cases h; simp
        · rw [hrr] at h; cases h
          exact q4 (by simp at hl; exact hl)
        · rw [← his]
          rcases List.mem_append.1 he with he | he
          · rw [his]; exact hB.1 es he
          · exact hes es he
        · rw [hold]; exact q5 b' hb
    · cases h
  · cases h
end
end Go.Fw
/- Operations that ask for something run well: slices. -/
namespace Go.Fw
open Go Go.RowKit

section
variable {P : Program} {G : Cfg} (ht : TOK P G.T) {X : Ctx2} {s : St} {a : Act} {w : World} {E : Env} {C : CallRel} {J : Inl} {Pp : Value → Prop} {Qc : Exit → Act → World → Prop} {K : Eff → Prop}

omit ht in
theorem optInt_sound (hs : Sim G.T X s a w E) {x : Option Operand} {d i : Int} (h : optInt s x d = some i) : (x = none ∧ i = d) ∨ ∃ o k, x = some o ∧ a.eval o = .int k i := by
  unfold optInt at h
  cases x with
  | none => simp at h; exact .inl ⟨rfl, h.symm⟩
  | some o =>
    simp only at h
    obtain ⟨k, hk⟩ := intOf_sound hs h
    exact .inr ⟨o, k, rfl, hk⟩

/-- What a slice expression comes to. -/
theorem bounds_run {sl : Bool} {len cap : Nat} (hc : len ≤ cap) {lo hi : Option Value} {l h : Int} (hl : (lo = none ∧ l = 0) ∨ ∃ k, lo = some (.int k l)) (hh : (hi = none ∧ h = len) ∨ ∃ k, hi = some (.int k h))
    (h0 : 0 ≤ l) (h1 : l ≤ h) (h2 : h ≤ len) : (Instr.sliceBounds sl len cap lo hi none).run P w = .ok (l.toNat, h.toNat, cap) w := by
  have eh : ((h.toNat : Nat) : Int) = h := by omega
  have h0' : 0 ≤ h := by omega
  have h2' : h ≤ (cap : Int) := by omega
  rcases hl with ⟨rfl, rfl⟩ | ⟨k, rfl⟩ <;> rcases hh with ⟨rfl, rfl⟩ | ⟨k', rfl⟩ <;>
    simp [Instr.sliceBounds, Instr.sliceBound, asIntOf, h0, h1, h0', h2', h2, eh]
theorem bounds_run3 {len cap : Nat} (hc : len ≤ cap) {lo : Option Value} {l h m : Int} {k' k'' : IntKind} (hl : (lo = none ∧ l = 0) ∨ ∃ k, lo = some (.int k l))
    (h0 : 0 ≤ l) (h1 : l ≤ h) (h2 : h ≤ len) (hm : m = h) : (Instr.sliceBounds true len cap lo (some (.int k' h)) (some (.int k'' m))).run P w = .ok (l.toNat, h.toNat, h.toNat) w := by
  subst hm
  have eh : ((m.toNat : Nat) : Int) = m := by omega
  have h0' : 0 ≤ m := by omega
  have h2' : m ≤ (cap : Int) := by omega
  rcases hl with ⟨rfl, rfl⟩ | ⟨k, rfl⟩ <;>
    simp [Instr.sliceBounds, Instr.sliceBound, asIntOf, h0, h1, h0', h2', h2, eh]

/-- A part of a slice of fixed content. -/
theorem RSl.part {F : Nat → Prop} {xs : List (List Value)} {ex : Bool} {ad : Option Addr} {len cap : Nat} (h : RSl w F xs ex (.slice ad len cap)) {k : Nat} (hk : ∀ es ∈ xs, es.length = k) {l hh m : Nat} (h1 : l ≤ hh) (h2 : hh ≤ xs.length) (h3 : hh ≤ m)
    {ex' : Bool} (hex : ex' = true → m = hh) : RSl w F ((xs.take hh).drop l) ex' (.slice (if m = l then ad else ad.map (·.add (l * k))) (hh - l) (m - l)) := by
  obtain ⟨ad', cap', e, q1, q2, q3, k', q4, q5⟩ := h
  cases e
  have hlen : ((xs.take hh).drop l).length = hh - l := by simp; omega
  refine ⟨_, m - l, by rw [hlen], by omega, fun he => by have := hex he; omega, by omega, k, fun es he => hk es ?_, fun hne => ?_⟩
  · exact List.mem_of_mem_take (List.mem_of_mem_drop he)
  · have hpos : l < hh := by
      rcases Nat.lt_or_ge l hh with h | h
      · exact h
      · exact absurd (List.eq_nil_of_length_eq_zero (by omega)) hne
    obtain ⟨b, o, e1, hF, hc⟩ := q5 (fun e => by subst e; simp at h2; omega)
    subst e1
    refine ⟨b, o + l * k, ?_, hF, fun i es hi j u hj => ?_⟩
    · rw [if_neg (by omega)]
      simp [addr_add]
    · have hi' : xs[l + i]? = some es := by
        rw [List.getElem?_drop, List.getElem?_take] at hi
        split at hi
        · exact hi
        · cases hi
      have hkk : k = k' := (hk es (List.mem_of_getElem? hi')).symm.trans (q4 es (List.mem_of_getElem? hi'))
      have := hc (l + i) es hi' j u hj
      refine ⟨this.1, ?_⟩
      rw [← this.2, ← hkk, Nat.add_mul, Nat.add_assoc o]

omit ht in
theorem rowP_sound {x : AV} {xs : List (List Value)} {y : Value} (h : rowP x = some xs) (hx : RA s.bs w E x y) : ∃ ex, RSl w E.F xs ex y := by
  unfold rowP at h
  split at h
  · cases h
    have hy : y = .slice none 0 0 := hx.1
    exact ⟨false, none, 0, hy, Nat.le_refl _, by simp, by simp, 0, by simp, by simp⟩
  · cases h; exact ⟨false, hx.1⟩
  · cases h; exact ⟨true, hx.1⟩
  · cases h

theorem part_list (xs : List UInt8) (l h : Nat) : (⟨⟨xs⟩⟩ : ByteArray).extract l h = ⟨⟨(xs.take h).drop l⟩⟩ := by
  apply ByteArray.ext
  simp [List.drop_take]

include ht
theorem slice_sound (hs : Sim G.T X s a w E) (o : Oper) {t : Nat} {x : Operand} {lo hi mx : Option Operand} (ho : o.op = .slice t x lo hi mx) {r : Req} (h : evReq G s o.op = some r) (hw : r.wp K) :
    o.upon P a (Nxt G X s o.dst K) Qc ((execOp a.eval o).run P w) := by
  rw [ho] at h
  simp only [evReq] at h
  have hx := hs.ev x
  have hexec : ∀ {v}, (Instr.sliceAt t (a.eval x) (lo.map a.eval) (hi.map a.eval) (mx.map a.eval)).run P w = .ok v w → (execOp a.eval o).run P w = .ok (.value v) w := by
    intro v hv
    simp [execOp, ho, hv]
  have opt : ∀ {x : Option Operand} {d i : Int}, optInt s x d = some i → (x.map a.eval = none ∧ i = d) ∨ ∃ k, x.map a.eval = some (.int k i) := by
    intro x d i h
    rcases optInt_sound hs h with ⟨e1, e2⟩ | ⟨o, k, e1, e2⟩
    · exact .inl ⟨by rw [e1]; rfl, e2⟩
    · exact .inr ⟨k, by rw [e1]; simp [e2]⟩
  split at h
  · cases h
  · rename_i l hl
    split at h
    · rename_i hk
      split at h
      · rename_i xs he
        split at h
        · rename_i hh hhi
          cases h
          obtain ⟨⟨h0, h1, h2⟩, hK⟩ := hw
          rw [he] at hx
          have hv := RA_val hx
          refine fin_pure hs o (val := .string ⟨⟨(xs.take hh.toNat).drop l.toNat⟩⟩) (hexec ?_) (RA_val_mk _ rfl) hK
          have hb := bounds_run (P := P) (w := w) (sl := false) (len := xs.length) (cap := xs.length) (Nat.le_refl _) (opt hl) (opt hhi) h0 h1 h2
          rw [hv]
          simp only [Option.map_none]
          rw [run_sliceAt_string (P := P) w t _ _ _ _ (ht.str hk)]
          have hsz : (⟨⟨xs⟩⟩ : ByteArray).size = xs.length := rfl
          simp only [Instr.slice, Sem.run_bind, run_underlying (ht.str hk), Result.andThen_ok, hsz]
          simp [hb, part_list]
        · cases h
      · cases h
    · rename_i e hk
      cases hok : okT G e with
      | false => rw [hok] at h; cases h
      | true =>
        rw [hok] at h
        simp only [Bool.not_true, cond_false] at h
        have hu := ht.slice hk
        have hsz : (sizeOf e).run P w = .ok (sizeT G e) w := ht.sizeOf (okT_ne ht hok) w
        split at h
        · rename_i xs hxs
          obtain ⟨ex, hsl⟩ := rowP_sound hxs hx
          obtain ⟨ad, cap, hy, hcap, _⟩ := id hsl
          split at h
          · rename_i hh hhi
            split at h
            · cases h
              obtain ⟨⟨h0, h1, h2, h3⟩, hK⟩ := hw
              rw [hy] at hsl
              have hb := bounds_run (P := P) (w := w) (sl := true) (len := xs.length) (cap := cap) hcap (opt hl) (opt hhi) h0 h1 h2
              have hp := hsl.part (k := sizeT G e) h3 (l := l.toNat) (hh := hh.toNat) (m := cap) (by omega) (by omega) (by omega) (ex' := false) (by simp)
              refine fin_pure hs o (v := .sl ((xs.take hh.toNat).drop l.toNat)) (hexec ?_) ⟨hp, rfl⟩ hK
              rw [hy]
              simp only [Option.map_none, Instr.sliceAt, Sem.run_bind, run_underlying hu, Result.andThen_ok, Instr.slice, hb, hsz, Sem.run_pure]
            · split at h
              · rename_i mo m hm
                cases hi with
                | none => simp at h
                | some hio =>
                  simp only [Option.isNone_some, cond_false] at h
                  cases h
                  obtain ⟨⟨h0, h1, h2, h3, h4⟩, hK⟩ := hw
                  rw [hy] at hsl
                  obtain ⟨km, hmv⟩ := intOf_sound hs hm
                  obtain ⟨kh, hhv⟩ : ∃ k, a.eval hio = .int k hh := by
                    rcases optInt_sound hs hhi with ⟨e1, _⟩ | ⟨o, k, e1, e2⟩
                    · cases e1
                    · cases e1; exact ⟨k, e2⟩
                  have hb := bounds_run3 (P := P) (w := w) (len := xs.length) (cap := cap) (k' := kh) (k'' := km) hcap (opt hl) h0 h1 h2 h3
                  have hp := hsl.part (k := sizeT G e) h4 (l := l.toNat) (hh := hh.toNat) (m := hh.toNat) (by omega) (by omega) (by omega) (ex' := true) (fun _ => rfl)
                  refine fin_pure hs o (v := .one (.p (.slc ((xs.take hh.toNat).drop l.toNat)))) (hexec ?_) ⟨hp, rfl⟩ hK
                  rw [hy]
                  simp only [Option.map_some, hmv, hhv, Instr.sliceAt, Sem.run_bind, run_underlying hu, Result.andThen_ok, Instr.slice, hb, hsz, Sem.run_pure]
              · cases h
          · cases h
        · cases h
    · cases h
end
end Go.Fw
/- Operations that ask for something run well: all of them. -/
namespace Go.Fw
open Go Go.RowKit

theorem rep_flat {α : Type} (zl : List α) (hk : 0 < zl.length) : ∀ (n j : Nat), j < n * zl.length → (List.replicate n zl).flatten[j]? = zl[j % zl.length]?
  | 0, j, h => by simp at h
  | n + 1, j, h => by
    rw [List.replicate_succ, List.flatten_cons]
    by_cases hj : j < zl.length
    · rw [List.getElem?_append_left hj, Nat.mod_eq_of_lt hj]
    · rw [List.getElem?_append_right (by omega), rep_flat zl hk n (j - zl.length) (by rw [Nat.add_mul] at h; omega)]
      congr 1
      rw [← Nat.mod_eq_sub_mod (by omega)]
theorem setAt_nil {α : Type} : ∀ (l : List α) (n : Nat), setAt l n [] = l := by intro l n; cases l <;> cases n <;> rfl
theorem setAt_all {α : Type} : ∀ (l vs : List α), l.length = vs.length → setAt l 0 vs = vs
  | [], [], _ => rfl
  | x :: l, v :: vs, h => by
    show v :: setAt l 0 vs = v :: vs
    rw [setAt_all l vs (by simpa using h)]

section
variable {P : Program} {G : Cfg} (ht : TOK P G.T) {X : Ctx2} {s : St} {a : Act} {w : World} {E : Env} {C : CallRel} {J : Inl} {Pp : Value → Prop} {Qc : Exit → Act → World → Prop} {K : Eff → Prop}

omit ht in
theorem vals_ev (hs : Sim G.T X s a w E) {x : Operand} {y : W1} {vs : List Value} (he : s.ev x = .w y) (hv : valsOf y.cells = some vs) : (a.eval x).cells.toList = vs ∧ ∀ u ∈ vs, u.oneCell' = true := by
  have hx := hs.ev x
  rw [he] at hx
  have hj : okBox (.w y) = true := by
    cases y with
    | one c => cases c <;> first | rfl | (simp [W1.cells, valsOf] at hv)
    | agg cs => rfl
  have hA := RA_cells hx hj
  have := valsOf_sound _ _ _ hA hv
  exact ⟨this, fun u hu => by rw [← this] at hu; exact hA.all_right (p := fun v => v.oneCell' = true) (fun _ _ h => h.2) u hu⟩

omit ht in
theorem sliceParts_sound (hs : Sim G.T X s a w E) {k : Nat} : ∀ (parts : List (Nat × Operand)) (xs xs' : List (List Value)) (ar : Array Value), ar.toList = xs.flatten →
    (∀ es ∈ xs, es.length = k ∧ ∀ u ∈ es, u.oneCell' = true) → sliceParts s k xs parts = some xs' →
    ∃ ar', Instr.fill (fun i => some (i * k, k)) ar (parts.map fun p => (p.1, a.eval p.2)) = some ar' ∧ ar'.toList = xs'.flatten ∧ xs'.length = xs.length ∧ ∀ es ∈ xs', es.length = k ∧ ∀ u ∈ es, u.oneCell' = true
  | [], xs, xs', ar, h1, h2, h => by simp [sliceParts] at h; subst h; exact ⟨ar, rfl, h1, rfl, h2⟩
  | (i, x) :: rest, xs, xs', ar, h1, h2, h => by
    simp only [sliceParts] at h
    split at h
    · rename_i y he
      split at h
      · rename_i vs hv
        cases hc : (Nat.beq vs.length k && Nat.blt i xs.length) with
        | false => rw [hc] at h; cases h
        | true =>
          rw [hc] at h
          simp only [cond_true] at h
          simp only [Bool.and_eq_true] at hc
          have c1 := Nat.eq_of_beq_eq_true hc.1
          have c2 : i < xs.length := Nat.le_of_ble_eq_true hc.2
          obtain ⟨hcells, hone⟩ := vals_ev hs he hv
          have hes : xs[i]? = some xs[i] := by simp [c2]
          have hlen : ∀ es ∈ xs, es.length = k := fun es he => (h2 es he).1
          have hfl : (setNth xs i vs).flatten = setAt xs.flatten (i * k + 0) vs := by
            have := flatten_set k xs i xs[i] vs 0 hlen hes (by omega)
            rw [setAt_all _ _ (by rw [hlen _ (List.getElem_mem c2), c1])] at this
            exact this
          have hfit : i * k + k ≤ ar.size := by
            have e1 : ar.size = xs.flatten.length := by rw [← h1]; simp
            rw [e1, flatten_len k xs hlen, ← Nat.succ_mul]
            exact Nat.mul_le_mul_right _ c2
          have hsz : (a.eval x).cells.size = k := by rw [← c1, ← hcells]; simp
          have hset := foldl_set (i * k) (a.eval x).cells.toList 0 ar (by simp; omega)
          obtain ⟨ar', g1, g2, g3, g4⟩ := sliceParts_sound hs rest (setNth xs i vs) xs' ((((a.eval x).cells.toList.zipIdx 0).foldl (fun cs p => cs.setIfInBounds (i * k + p.2) p.1) ar)) (by rw [hset, hfl, h1, hcells])
            (fun es he => by
              rcases setNth_mem _ _ _ _ he with rfl | he
              · exact ⟨c1, hone⟩
              · exact h2 es he) h
          refine ⟨ar', ?_, g2, by rw [g3, setNth_len], g4⟩
          rw [← g1]
          simp only [List.map_cons, Instr.fill]
          rw [if_neg (by simp; omega)]
          congr 1
          rw [← Array.foldl_toList, Array.toList_zipIdx]
      · cases h
    · cases h

omit ht in
theorem buildSlice_run {t e n k : Nat} {i : TypeInfo} {z : Value} (hu : P.underlying t = some (.slice e)) (hi : P.info? e = some i) (hz : i.zero = some z) (his : i.size = k) (hzs : z.cells.size = k) (hk : 0 < k) (hn : n * k ≤ 16777216) :
    ∃ ar0 : Array Value, ar0.toList = (List.replicate n z.cells.toList).flatten ∧ ∀ cells vals, Instr.fill (fun i => some (i * k, k)) ar0 vals.toList = some cells →
      (Instr.buildSlice t n vals).run P w = .ok (.slice (some ⟨w.heap.size, 0, none⟩) n n) (w.alloc (.cells cells e)) := by
  subst his
  have hbig : ¬ n * i.size > 2 ^ 24 := by omega
  by_cases h0 : n * i.size = 0
  · have hn0 : n = 0 := by
      rcases Nat.mul_eq_zero.1 h0 with h | h
      · exact h
      · omega
    subst hn0
    refine ⟨#[], by simp, fun cells vals hf => ?_⟩
    have hf' : Instr.fill (fun j => some (j * i.size, i.size)) #[] vals.toList = some cells := hf
    have e0 : (Array.map (fun _ => (default : Value)) (Array.range 0)) = #[] := by simp
    simp [Instr.buildSlice, run_underlying hu, sizeOf, typeInfo, hi, newRow]
    rw [e0, hf']
    simp
  · refine ⟨(Array.range (n * i.size)).map (z.cells[· % z.cells.size]!), ?_, fun cells vals hf => run_buildSlice w t e n vals cells i z hu hi hz hbig h0 hf⟩
    apply List.ext_getElem?
    intro j
    by_cases hj : j < n * i.size
    · have hl : z.cells.toList.length = i.size := by rw [← hzs]; simp
      rw [rep_flat z.cells.toList (by omega) n j (by rw [hl]; exact hj), hl]
      have hm : j % i.size < z.cells.size := by rw [hzs]; exact Nat.mod_lt _ hk
      rw [Array.toList_map, List.getElem?_map]
      simp [hj, hzs]
      rw [Array.getElem?_eq_getElem hm, getElem!_pos z.cells (j % i.size) hm]
    · rw [List.getElem?_eq_none (by simp; omega), List.getElem?_eq_none]
      rw [flatten_len z.cells.toList.length _ fun es he => by rw [List.eq_of_mem_replicate he]]
      have hl : z.cells.toList.length = i.size := by rw [← hzs]; simp
      rw [hl]; simp; omega

include ht
theorem buildSlice_sound (hs : Sim G.T X s a w E) (o : Oper) {t n : Nat} {parts : Array (Nat × Operand)} (ho : o.op = .buildSlice t n parts) {r : Req} (h : evReq G s o.op = some r) (hw : r.wp K) :
    o.upon P a (Nxt G X s o.dst K) Qc ((execOp a.eval o).run P w) := by
  rw [ho] at h
  simp only [evReq] at h
  split at h
  · rename_i e hk
    split at h
    · rename_i hnx
      split at h
      · rename_i z hz
        cases hc : (okT G e && !Nat.beq (sizeT G e) 0 && Nat.beq z.length (sizeT G e) && Nat.ble (n * sizeT G e) 16777216) with
        | false => rw [hc] at h; cases h
        | true =>
          rw [hc] at h
          simp only [cond_true, Option.map_eq_some_iff] at h
          obtain ⟨xs, hxs, rfl⟩ := h
          simp only [Bool.and_eq_true] at hc
          obtain ⟨⟨⟨c1, c2⟩, c3⟩, c4⟩ := hc
          have c3' := Nat.eq_of_beq_eq_true c3
          have c4' := Nat.le_of_ble_eq_true c4
          have hpos : 0 < sizeT G e := by
            rcases Nat.eq_zero_or_pos (sizeT G e) with h | h
            · rw [h] at c2; cases c2
            · exact h
          have hne := okT_ne ht c1
          obtain ⟨i, hi, his, hib, hiz⟩ := ht.info2 hne
          have hzv : (G.T e).zero.cells.toList = z ∧ ∀ u ∈ z, u.oneCell' = true := by
            have hA := zeroCs_ok (w := w) (E := E) (bs := s.bs) ht (t := e) hne
            unfold zeroEs at hz
            split at hz
            · rename_i y hy
              have : zeroCs G e = y.cells := by unfold zeroCs; rw [hy]
              rw [this] at hA
              have h1 := valsOf_sound _ _ _ hA hz
              exact ⟨h1, fun u hu => by rw [← h1] at hu; exact hA.all_right (p := fun v => v.oneCell' = true) (fun _ _ h => h.2) u hu⟩
            · cases hz
          obtain ⟨hzc, hz1⟩ := hzv
          have hzs : (G.T e).zero.cells.size = sizeT G e := by rw [← c3', ← hzc]; simp
          obtain ⟨ar0, har0, hrun⟩ := buildSlice_run (P := P) (w := w) (ht.slice hk) hi hiz (k := sizeT G e) his hzs hpos c4'
          rw [hzc] at har0
          obtain ⟨ar', g1, g2, g3, g4⟩ := sliceParts_sound hs parts.toList (List.replicate n z) xs ar0 har0 (fun es he => by rw [List.eq_of_mem_replicate he]; exact ⟨c3', hz1⟩) hxs
          have hr := hrun ar' (parts.map fun p => (p.1, a.eval p.2)) (by rw [Array.toList_map]; exact g1)
          have hexec : (execOp a.eval o).run P w = .ok (.value (.slice (some ⟨w.heap.size, 0, none⟩) n n)) (w.alloc (.cells ar' e)) := by
            simp [execOp, ho, hr]
          rw [hexec]
          have hlen : xs.length = n := by rw [g3]; simp
          have hfl : xs.flatten.length = n * (G.T e).size := by rw [flatten_len (sizeT G e) xs fun es he => (g4 es he).1, hlen]; rfl
          have hown : (w.alloc (.cells ar' e)).ownsRow 0 e (G.T e).size (.slice (some ⟨w.heap.size, 0, none⟩) n n) xs.length xs.flatten := by
            rw [hlen]
            refine ⟨hfl, .inr ⟨w.heap.size, n, ar', rfl, Nat.zero_le _, heap_alloc_new w _, Nat.le_refl _, ?_, ?_, ?_⟩⟩
            · have : n * 1 ≤ n * sizeT G e := Nat.mul_le_mul_left _ hpos
              unfold maxLen; omega
            · rw [← Array.length_toList, g2, hfl]
            · rw [g2, ← hfl, List.take_length]
          refine ⟨_, _, hw, vec_step hs (e := e) (xs' := xs) (w' := w.alloc (.cells ar' e)) (v' := .slice (some ⟨w.heap.size, 0, none⟩) n n) (.inl hnx) (fun xs h => by rw [hnx] at h; cases h) (fun xs h => by rw [hnx] at h; cases h) rfl rfl rfl (by rw [size_alloc]; omega)
            (fun k hk _ => heap_alloc_old w _ k hk) g4 hpos ?_ hown (fun b hb => by cases hb; exact .inr (Nat.le_refl _)) o.dst _ (ref_val hlen.symm hown)⟩
          have : n * 1 ≤ n * sizeT G e := Nat.mul_le_mul_left _ hpos
          omega
      · cases h
    · cases h
  · cases h
end
end Go.Fw
