/- A part of the proof of Rows.ShopBackSaid: what ShopBack answers, whatever the arguments; it stands under no condition. -/
import Derived.Test.YtdehaflkiobnlaaGreatBack03
import Derived.Lib.Overlaps
import Derived.Lib.AppendZeros
set_option linter.unusedVariables false
set_option linter.unusedSimpArgs false
set_option linter.unusedSectionVars false
set_option linter.deprecated false
/- Maps: each operation runs well (2). -/
namespace Go.Fw
open Go Go.RowKit Go.MapKept

section
variable {P : Program} {G : Cfg} (ht : TOK P G.T) {X : Ctx2} {s : St} {a : Act} {w : World} {E : Env} {Qc : Exit → Act → World → Prop} {K : Eff → Prop}
include ht

/-- One that is asked for and written: first the question. -/
theorem ment_sound (hs : Sim G.T X s a w E) {r kk kt et mt : Nat} {isB : Bool} {m : List (Value × Int)} {st : Option (Value × Int)} (hb : s.bs r = .mapi kk isB m st) (hmt : (G.T mt).k = .map kt et) (hkk : kindK G kt = some kk)
    (hne : (G.T et).k ≠ .other) (hz : (G.T et).zero = encM isB 0) {k : Value} (hk : keyK kk k = true) (dst : Option Nat) (nx : Nat) :
    ∃ b w', (Instr.mapEntry mt (.map (some (E.σ r))) k).run P w = .ok (.tuple #[encM isB (mget m k), .int .i64 b]) w' ∧
      Sim G.T X (s.app dst ⟨.tup [.one (.p (.v (encM isB (mget m k)))), .one (.p (.v (.int .i64 b)))], [(r, .mapi kk isB (ment m k) (some (k, b)))], nx⟩) (a.put dst (.tuple #[encM isB (mget m k), .int .i64 b])) w' E := by
  have hB := hs.bl.blk r
  rw [hb] at hB
  obtain ⟨es, clock, hh, hA, hst, _⟩ := hB
  have hm := ht.map hmt
  obtain ⟨_, c2, hf⟩ := map_found ht hkk hk hA hst w
  have hk' := keyK_isKey hk
  have hzr := ht.zero hne w
  rw [hz] at hzr
  have go : ∀ (b : Int) (es' : Array MapEntry) (clock' : Nat), A2 (fun (p : Value × Int) (e : MapEntry) => e.key = p.1 ∧ keyK kk p.1 = true ∧ e.val = encM isB p.2) (ment m k) es'.toList → Stamped es' clock' →
      (∃ (i : Nat) (e : MapEntry), es'.toList[i]? = some e ∧ e.key = k ∧ (e.born : Int) = b) →
      Sim G.T X (s.app dst ⟨.tup [.one (.p (.v (encM isB (mget m k)))), .one (.p (.v (.int .i64 b)))], [(r, .mapi kk isB (ment m k) (some (k, b)))], nx⟩) (a.put dst (.tuple #[encM isB (mget m k), .int .i64 b])) { w with heap := w.heap.setIfInBounds (E.σ r) (.map es' clock') } E := by
    intro b es' clock' hA' hst' hx
    refine map_step hs (.inr ⟨kk, isB, m, st, hb⟩) ?_ (.inl (by simp [mblk, upd_same])) hh (fun _ => ?_) dst nx ⟨_, rfl, ⟨rfl, encM_one _ _⟩, ⟨rfl, rfl⟩, trivial⟩
    · intro _; rw [upd_same]; exact ⟨⟨kk, isB, m, st, hb⟩, rfl⟩
    · exact ⟨es', clock', (heap_set hh).1, hA', hst', fun k' b' h => by cases h; exact hx⟩
  rcases hf with ⟨h1, h2, h3, _, h5, h6⟩ | ⟨j, e, p, hp, hj, h3, hpk, hval, h4, h5, h7, _, h9⟩
  · refine ⟨clock, _, ?_, go clock (es.push { key := k, val := encM isB 0, born := clock }) (clock + 1) ?_ (stamped_push hst h6) ⟨es.size, { key := k, val := encM isB 0, born := clock }, by simp, rfl, rfl⟩⟩
    · rw [h1]
      simp [Instr.mapEntry, run_underlying hm, MapKept.run_getObj_map hh, c2, h5, hzr, run_setObj_map _ hh, Result.andThen, goInt]
    · rw [Array.toList_push]
      have : ment m k = m ++ [(k, 0)] := by simp [ment, h2]
      rw [this]
      exact hA.snoc ⟨rfl, hk, rfl⟩
  · have hm0 : ment m k = m := by simp [ment, h5]
    refine ⟨e.born, _, ?_, go e.born (es.modify j fun e => { e with key := k }) clock ?_ ?_ ?_⟩
    · rw [h4]
      simp [Instr.mapEntry, run_underlying hm, MapKept.run_getObj_map hh, c2, h9, hj, h3, run_keyThatStays hk', run_setObj_map _ hh, Result.andThen, hval, goInt]
    · rw [hm0, modify_toList]
      have := hA.modify (fun p => p) (fun e => ({ e with key := k } : MapEntry)) j fun a b ha hb' hR => by
        rw [hp] at ha; cases ha
        exact ⟨hpk.symm, hR.2.1, hR.2.2⟩
      have e0 : m.modify j (fun p => p) = m := by
        apply List.ext_getElem?
        intro i
        rw [List.getElem?_modify]
        split <;> simp
      rw [e0] at this
      exact this
    · exact stamped_modify hst _ _ (fun _ _ => rfl) (fun e' _ he' => by rw [hj] at he'; cases he'; exact h3.symm)
    · refine ⟨j, { e with key := k }, ?_, rfl, rfl⟩
      rw [Array.getElem?_toList, Array.getElem?_modify]
      simp [hj]

omit ht in
theorem nodup_at {α : Type} {l : List α} (h : l.Nodup) {i j : Nat} {x : α} (h1 : l[i]? = some x) (h2 : l[j]? = some x) : i = j :=
  (List.getElem?_inj (List.getElem?_eq_some_iff.1 h1).1 h).1 (h1.trans h2.symm)
omit ht in
theorem findIdx_born {es : Array MapEntry} {clock : Nat} (hst : Stamped es clock) {i : Nat} {e : MapEntry} (hi : es.toList[i]? = some e) : es.findIdx? (fun x => (x.born : Int) == (e.born : Int)) = some i := by
  have hlt : i < es.size := by simpa using (List.getElem?_eq_some_iff.1 hi).1
  rw [Array.findIdx?_eq_some_iff_getElem]
  have he : es[i] = e := by
    have := (List.getElem?_eq_some_iff.1 hi).2
    simpa using this
  refine ⟨hlt, by rw [he]; simp, fun j hj hq => ?_⟩
  have hjl : j < es.size := by omega
  have h1 : es[j].born = e.born := by
    have : ((es[j].born : Nat) : Int) = (e.born : Int) := by simpa using hq
    omega
  have := nodup_at hst.2.1 (i := j) (j := i) (x := e.born) (by simp [hjl, h1]) (by simp [hlt, he])
  omega

/-- Then the element is laid there. -/
theorem estore_sound (hs : Sim G.T X s a w E) {r kk mt : Nat} {isB : Bool} {m : List (Value × Int)} {k : Value} {b : Int} (hb : s.bs r = .mapi kk isB m (some (k, b))) (n : Int) (dst : Option Nat) (nx : Nat) (u : Value) :
    ∃ w', (Instr.entryStore mt (.map (some (E.σ r))) (.int .i64 b) (encM isB n)).run P w = .ok () w' ∧ Sim G.T X (s.app dst ⟨.junk, [(r, .mapi kk isB (mset m k n) none)], nx⟩) (a.put dst u) w' E := by
  have hB := hs.bl.blk r
  rw [hb] at hB
  obtain ⟨es, clock, hh, hA, hst, hx⟩ := hB
  obtain ⟨j, e, hj, hek, rfl⟩ := hx k b rfl
  obtain ⟨p, hp, hR⟩ := hA.get' j e hj
  have hkm : ∀ p ∈ m, keyK kk p.1 = true := hA.mem (p := fun p => keyK kk p.1 = true) fun p e h => h.2.1
  have hnd : (m.map (·.1)).Nodup := A2.nodup (fun p e h => h.1) hA hst
  have hpk : p.1 = k := by rw [← hR.1]; exact hek
  have hk : keyK kk k = true := by rw [← hpk]; exact hkm p (List.mem_of_getElem? hp)
  obtain ⟨_, _, h7, _⟩ := m_some hk hkm hnd hp hpk
  refine ⟨{ w with heap := w.heap.setIfInBounds (E.σ r) (.map (es.modify j fun x => { x with val := encM isB n }) clock) }, ?_, map_step hs (.inr ⟨kk, isB, m, _, hb⟩) ?_ (.inl (by simp [mblk, upd_same])) hh (fun _ => ?_) dst nx (RA_junk _ _)⟩
  · simp [Instr.entryStore, MapKept.run_getObj_map hh, asInt, asIntOf, findIdx_born hst hj, run_setObj_map _ hh, Result.andThen]
  · intro _; rw [upd_same]; exact ⟨⟨kk, isB, m, _, hb⟩, rfl⟩
  · refine ⟨_, clock, (heap_set hh).1, ?_, stamped_modify hst _ _ (fun _ _ => rfl) (fun e' _ he' => rfl), fun k' b' h => by cases h⟩
    rw [h7, modify_toList]
    exact hA.modify _ _ j fun a b ha hb' hR => ⟨hR.1, hR.2.1, rfl⟩

theorem mdel_sound (hs : Sim G.T X s a w E) {r kk kt et mt ty t2 : Nat} {isB : Bool} {m : List (Value × Int)} {st : Option (Value × Int)} (hb : s.bs r = .mapi kk isB m st) (hmt : (G.T mt).k = .map kt et) (hkk : kindK G kt = some kk)
    {k : Value} (hk : keyK kk k = true) (dst : Option Nat) (nx : Nat) :
    ∃ w', (Builtin.delete_ #[mt, t2] ty #[.map (some (E.σ r)), k]).run P w = .ok (.tuple #[]) w' ∧ Sim G.T X (s.app dst ⟨.tup [], [(r, .mapi kk isB (mdel m k) none)], nx⟩) (a.put dst (.tuple #[])) w' E := by
  have hB := hs.bl.blk r
  rw [hb] at hB
  obtain ⟨es, clock, hh, hA, hst, _⟩ := hB
  have hm := ht.map hmt
  obtain ⟨c1, _, hf⟩ := map_found ht hkk hk hA hst w
  have go : ∀ (es' : Array MapEntry) (clock' : Nat), A2 (fun (p : Value × Int) (e : MapEntry) => e.key = p.1 ∧ keyK kk p.1 = true ∧ e.val = encM isB p.2) (mdel m k) es'.toList → Stamped es' clock' →
      Sim G.T X (s.app dst ⟨.tup [], [(r, .mapi kk isB (mdel m k) none)], nx⟩) (a.put dst (.tuple #[])) { w with heap := w.heap.setIfInBounds (E.σ r) (.map es' clock') } E := by
    intro es' clock' hA' hst'
    refine map_step hs (.inr ⟨kk, isB, m, st, hb⟩) ?_ (.inl (by simp [mblk, upd_same])) hh (fun _ => ?_) dst nx ⟨_, rfl, trivial⟩
    · intro _; rw [upd_same]; exact ⟨⟨kk, isB, m, st, hb⟩, rfl⟩
    · exact ⟨es', clock', (heap_set hh).1, hA', hst', fun k b h => by cases h⟩
  rcases hf with ⟨_, _, _, h4, h5, h6⟩ | ⟨j, e, p, hp, hj, h3, hpk, hval, _, _, _, h7, h9⟩
  · refine ⟨_, ?_, go es clock ?_ hst⟩
    · simp [Builtin.delete_, run_underlying hm, MapKept.run_getObj_map hh, c1, h5, run_setObj_map _ hh, Result.andThen]
    · rw [h4]; exact hA
  · refine ⟨_, ?_, go (es.eraseIdxIfInBounds j) clock ?_ (stamped_erase hst j)⟩
    · simp [Builtin.delete_, run_underlying hm, MapKept.run_getObj_map hh, c1, h9, run_setObj_map _ hh, Result.andThen]
    · rw [h7, erase_toList]; exact hA.eraseIdx j

/-- What lies in a map. -/
theorem mget_sound (hs : Sim G.T X s a w E) {r kk kt et mt : Nat} {isB : Bool} {m : List (Value × Int)} {st : Option (Value × Int)} (hb : s.bs r = .mapi kk isB m st) (hmt : (G.T mt).k = .map kt et) (hkk : kindK G kt = some kk)
    (hne : (G.T et).k ≠ .other) (hz : (G.T et).zero = encM isB 0) {k : Value} (hk : keyK kk k = true) (ok : Bool) :
    (Instr.lookup mt (.map (some (E.σ r))) k ok).run P w = .ok (if ok then .tuple #[encM isB (mget m k), .bool (mhas m k)] else encM isB (mget m k)) w := by
  have hB := hs.bl.blk r
  rw [hb] at hB
  obtain ⟨es, clock, hh, hA, hst, _⟩ := hB
  have hm := ht.map hmt
  obtain ⟨c1, _, hf⟩ := map_found ht hkk hk hA hst w
  have hzr := ht.zero hne w
  rw [hz] at hzr
  rcases hf with ⟨h1, h2, _, h4, h5, h6⟩ | ⟨j, e, p, hp, hj, h3, hpk, hval, h4, h5, _, h7, h9⟩
  · rw [h1, h2]
    cases ok <;> simp [Instr.lookup, run_underlying hm, MapKept.run_getObj_map hh, c1, h5, hzr, Result.andThen]
  · rw [h4, h5]
    cases ok <;> simp [Instr.lookup, run_underlying hm, MapKept.run_getObj_map hh, c1, h9, hval, Result.andThen]

/-- A map of few entries: one more. -/
theorem bins_sound (hs : Sim G.T X s a w E) {r kk kt et mt : Nat} {es0 : List (Value × Cell)} (hb : s.bs r = .mapb kk es0) (hmt : (G.T mt).k = .map kt et) (hkk : kindK G kt = some kk)
    {k : Value} (hk : keyK kk k = true) (hnew : (es0.all fun p => !keq k p.1) = true) {c : Cell} {val : Value} (hc : RC1 s.bs w E c val) (dst : Option Nat) (nx : Nat) (u : Value) :
    ∃ w', (Instr.mapUpdate mt (.map (some (E.σ r))) k val).run P w = .ok () w' ∧ Sim G.T X (s.app dst ⟨.junk, [(r, .mapb kk (es0 ++ [(k, c)]))], nx⟩) (a.put dst u) w' E := by
  have hB := hs.bl.blk r
  rw [hb] at hB
  obtain ⟨es, clock, hh, hA, hst⟩ := hB
  have hm := ht.map hmt
  have hd := kindK_und ht hkk
  have hk' := keyK_isKey hk
  have hks : ∀ x ∈ es.toList, IsKey (descK kk) x.key := hA.all_right (p := fun x => IsKey (descK kk) x.key) fun p e h => by rw [h.1]; exact keyK_isKey h.2.1
  have hne : ∀ x ∈ es.toList, x.key ≠ k := by
    intro x hx e
    obtain ⟨i, hi⟩ := List.mem_iff_getElem?.1 hx
    obtain ⟨p, hp, hR⟩ := hA.get' i x hi
    have h1 := List.all_eq_true.1 hnew p (List.mem_of_getElem? hp)
    have h2 : keq k p.1 = true := (keq_iff hk hR.2.1).2 (by rw [← hR.1, e])
    rw [h2] at h1; cases h1
  have hf : (Instr.findKey kt k es.toList).run P w = .ok none w := by
    rcases findNow_spec hk' es.toList 0 hks with ⟨h1, h2⟩ | ⟨j, e, h1, h2, h3⟩
    · exact run_findKey hd h1
    · exact absurd h3 (hne e (List.mem_of_getElem? h2))
  have hmr : mblk s.bs E r = some (E.σ r) := by simp [mblk, hb]
  refine ⟨{ w with heap := w.heap.setIfInBounds (E.σ r) (.map (es.push { key := k, val := val, born := clock }) (clock + 1)) }, ?_,
    map_step hs (.inl ⟨kk, es0, hb⟩) ?_ (.inl (by simp [mblk, upd_same])) hh (fun hbx => ?_) dst nx (RA_junk _ _)⟩
  · simp [Instr.mapUpdate, run_underlying hm, MapKept.run_getObj_map hh, run_checkKey hd hk' false 9999, hf, run_setObj_map _ hh, Result.andThen]
  · intro _; rw [upd_same]; exact ⟨⟨kk, es0, hb⟩, rfl⟩
  · have hf : FExt w E.F { w with heap := w.heap.setIfInBounds (E.σ r) (.map (es.push { key := k, val := val, born := clock }) (clock + 1)) } E.F :=
      ⟨fun _ h => h, fun b hF => (heap_set hh).2 b fun e => (hs.bl.mt r _ hmr).1 (e ▸ hF)⟩
    refine ⟨_, _, (heap_set hh).1, ?_, stamped_push hst hne⟩
    rw [Array.toList_push]
    exact (hA.mono fun _ _ q => ⟨q.1, q.2.1, q.2.2.ext hf hbx⟩).snoc ⟨rfl, hk, hc.ext hf hbx⟩

/-- What lies there: question by question. -/
theorem bget_sound (hs : Sim G.T X s a w E) {r kk kt et mt : Nat} {es0 : List (Value × Cell)} (hb : s.bs r = .mapb kk es0) (hmt : (G.T mt).k = .map kt et) (hkk : kindK G kt = some kk)
    (hne : (G.T et).k ≠ .other) {k : Value} (hk : keyK kk k = true) {K : Eff → Prop} (h : (lookB' k (.eff ⟨.junk, [], s.nx⟩) (fun c => .eff ⟨.one c, [], s.nx⟩) es0).wp K) :
    ∃ v val, (Instr.lookup mt (.map (some (E.σ r))) k false).run P w = .ok val w ∧ RA s.bs w E v val ∧ K ⟨v, [], s.nx⟩ := by
  have hB := hs.bl.blk r
  rw [hb] at hB
  obtain ⟨es, clock, hh, hA, hst⟩ := hB
  have hm := ht.map hmt
  have hd := kindK_und ht hkk
  have hk' := keyK_isKey hk
  have hzr := ht.zero hne w
  have hks : ∀ x ∈ es.toList, IsKey (descK kk) x.key := hA.all_right (p := fun x => IsKey (descK kk) x.key) fun p e h => by rw [h.1]; exact keyK_isKey h.2.1
  have c1 : (Instr.checkKey es.isEmpty 10000 kt k).run P w = .ok () w := run_checkKey hd hk' _ 9999
  have key : ∀ {es0 : List (Value × Cell)} {l : List MapEntry}, A2 (fun (p : Value × Cell) (e : MapEntry) => e.key = p.1 ∧ keyK kk p.1 = true ∧ RC1 s.bs w E p.2 e.val) es0 l →
      (lookB' k (.eff ⟨.junk, [], s.nx⟩) (fun c => .eff ⟨.one c, [], s.nx⟩) es0).wp K →
      ((∀ x ∈ l, x.key ≠ k) ∧ K ⟨.junk, [], s.nx⟩) ∨ ∃ x c, x ∈ l ∧ x.key = k ∧ RC1 s.bs w E c x.val ∧ K ⟨.one c, [], s.nx⟩ := by
    intro es0
    induction es0 with
    | nil =>
      intro l hA h
      cases l with
      | nil => exact .inl ⟨by simp, h⟩
      | cons e l => exact hA.elim
    | cons p es0 ih =>
      intro l hA h
      cases l with
      | nil => exact hA.elim
      | cons e l =>
        obtain ⟨hR, hA⟩ := hA
        have h1 := h.h _ rfl
        cases hq : keq k p.1 with
        | true =>
          rw [hq] at h1
          exact .inr ⟨e, p.2, by simp, by rw [hR.1]; exact ((keq_iff hk hR.2.1).1 hq).symm, hR.2.2, h1⟩
        | false =>
          rw [hq] at h1
          rcases ih hA h1 with ⟨g1, g2⟩ | ⟨x, c, g1, g2, g3, g4⟩
          · refine .inl ⟨fun x hx => ?_, g2⟩
            cases hx with
            | head => intro e'; rw [hR.1] at e'; rw [(keq_iff hk hR.2.1).2 e'.symm] at hq; cases hq
            | tail _ hx => exact g1 x hx
          · exact .inr ⟨x, c, by simp [g1], g2, g3, g4⟩
  rcases key hA h with ⟨g1, g2⟩ | ⟨x, c, g1, g2, g3, g4⟩
  · rcases findNow_spec hk' es.toList 0 hks with ⟨h1, _⟩ | ⟨j, e, h1, h2, h3⟩
    · refine ⟨.junk, (G.T et).zero, ?_, RA_junk _ _, g2⟩
      simp [Instr.lookup, run_underlying hm, MapKept.run_getObj_map hh, c1, run_findKey hd h1, hzr, Result.andThen]
    · exact absurd h3 (g1 e (List.mem_of_getElem? h2))
  · rcases findNow_spec hk' es.toList 0 hks with ⟨h1, h2⟩ | ⟨j, e, h1, h2, h3⟩
    · exact absurd g2 (h2 x g1)
    · have hxe : x = e := by
        obtain ⟨i, hi⟩ := List.mem_iff_getElem?.1 g1
        have hnd := hst.2.2
        have hij : i = j := nodup_at hnd (x := k) (by simp [hi, g2]) (by simp [h2, h3])
        subst hij
        rw [hi] at h2; cases h2; rfl
      subst hxe
      refine ⟨.one c, x.val, ?_, ⟨g3.1, ?_⟩, g4⟩
      · simp [Instr.lookup, run_underlying hm, MapKept.run_getObj_map hh, c1, run_findKey hd h1, Result.andThen]
      · have := g3.2
        cases c <;> first | trivial | exact this
end
end Go.Fw
/- Opened rows: each operation runs well. -/
namespace Go.Fw
open Go Go.RowKit

theorem flatten_drop {α : Type} (k : Nat) : ∀ (ys : List (List α)) (n : Nat), (∀ es ∈ ys, es.length = k) → (ys.drop n).flatten = ys.flatten.drop (n * k)
  | [], n, _ => by simp
  | y :: ys, 0, _ => by simp
  | y :: ys, n + 1, h => by
    have h1 : y.length = k := h y (by simp)
    have e : (n + 1) * k = y.length + n * k := by rw [h1, Nat.add_mul, Nat.one_mul, Nat.add_comm]
    rw [List.drop_succ_cons, List.flatten_cons, e, List.drop_length_add_append]
    exact flatten_drop k ys n fun es hes => h es (by simp [hes])
theorem flatten_take' {α : Type} (k : Nat) : ∀ (ys : List (List α)) (n : Nat), (∀ es ∈ ys, es.length = k) → (ys.take n).flatten = ys.flatten.take (n * k)
  | [], n, _ => by simp
  | y :: ys, 0, _ => by simp
  | y :: ys, n + 1, h => by
    have h1 : y.length = k := h y (by simp)
    have e : (n + 1) * k = y.length + n * k := by rw [h1, Nat.add_mul, Nat.one_mul, Nat.add_comm]
    simp only [List.flatten_cons, List.take_succ_cons, e]
    rw [List.take_length_add_append, flatten_take' k ys n fun es hes => h es (by simp [hes])]
/-- Cells that turn in the midst of a row. -/
theorem flatten_mid {α : Type} (k : Nat) (ys zs : List (List α)) (lo : Nat) (hy : ∀ es ∈ ys, es.length = k) (hz : ∀ es ∈ zs, es.length = k) :
    (ys.take lo ++ zs ++ ys.drop (lo + zs.length)).flatten = ys.flatten.take (lo * k) ++ zs.flatten ++ ys.flatten.drop (lo * k + zs.flatten.length) := by
  rw [List.flatten_append, List.flatten_append, flatten_take' k ys lo hy, flatten_drop k ys _ hy, flatten_len k zs hz, Nat.add_mul]

section
variable {P : Program} {G : Cfg} (ht : TOK P G.T) {X : Ctx2} {s : St} {a : Act} {w : World} {E : Env} {Qc : Exit → Act → World → Prop} {K : Eff → Prop}

theorem win_sound (hs : Sim G.T X s a w E) {x : AV} {y : Value} {r e n0 lo n : Nat} {ys : List (List Value)} (h : winOf s x = some (r, e, n0, lo, n, ys)) (hp : eqL (winE s x)) (hx : RA s.bs w E x y) :
    s.bs r = .buf e n0 ys ∧ RWin ys (E.sv r).ownBlock lo n y := by
  unfold winOf at h
  split at h
  · rename_i r' lo' n'
    split at h
    · rename_i e' n0' ys' hr
      cases h
      have := hx.1
      simp only [RC, hr] at this
      exact ⟨hr, this⟩
    · cases h
  · rename_i r' n'
    split at h
    · rename_i e' n0' ys' hr
      cases h
      have := hx.1
      simp only [RC, hr] at this
      simp only [winE, hr, eqL] at hp
      exact ⟨hr, this.2 hp.1⟩
    · cases h
  · cases h

/-- A slice whose elements may be read, whatever they are. -/
def Reads0 (w : World) (k : Nat) (ys : List (List Value)) (y : Value) : Prop :=
  ∃ ad cap, y = .slice ad ys.length cap ∧ (ad = none → ys = []) ∧ (∀ es ∈ ys, es.length = k) ∧ ∀ d, ad = some d → ∀ j u, ys.flatten[j]? = some u → w.cell? (d.add j) = some u
theorem Reads.less {k : Nat} {ys : List (List Value)} {y : Value} (h : Reads w k ys y) : Reads0 w k ys y := by
  obtain ⟨ad, cap, h1, h2, h3, h4⟩ := h
  exact ⟨ad, cap, h1, h2, fun es hes => (h3 es hes).1, h4⟩
/-- A part of an opened row may be read. -/
theorem win_reads (hs : Sim G.T X s a w E) {r e n0 lo n : Nat} {ys : List (List Value)} {y : Value} (hr : s.bs r = .buf e n0 ys) (hw : RWin ys (E.sv r).ownBlock lo n y) : Reads0 w (G.T e).size ((ys.drop lo).take n) y := by
  have hB := hs.bl.blk r
  rw [hr] at hB
  obtain ⟨h1, h2, h3, h4, h5⟩ := hB
  obtain ⟨g1, ad, g2, g3⟩ := hw
  have hlen : ((ys.drop lo).take n).length = n := by simp; omega
  refine ⟨ad, ys.length - lo, by rw [hlen]; exact g2, fun hn => ?_, fun es hes => h1 es (List.mem_of_mem_drop (List.mem_of_mem_take hes)), fun d hd j u hj => ?_⟩
  · rcases Nat.lt_or_ge lo ys.length with hlt | hge
    · obtain ⟨k, _, q2⟩ := g3 (.inl hlt)
      rcases h5 with ⟨q3, q4⟩ | ⟨g, cur, q3, _⟩
      · subst q4; simp
      · rw [hn, q3] at q2; cases q2
    · rw [List.drop_eq_nil_of_le hge]; simp
  · rcases Nat.lt_or_ge lo ys.length with hlt | hge
    · obtain ⟨k, q1, q2⟩ := g3 (.inl hlt)
      rcases h5 with ⟨q3, q4⟩ | ⟨g, cur, q3, q4, q5⟩
      · subst q4; simp at hlt
      · rw [hd, q3] at q2
        cases q2
        have hk : k = (G.T e).size := by
          obtain ⟨es, hes⟩ : ∃ es, es ∈ ys := ⟨ys[lo], List.getElem_mem _⟩
          rw [← q1 es hes, h1 es hes]
        rw [hk, addr_add, cell_of_row w _ _ cur e (0, 0) q4, ← Array.getElem?_toList, q5]
        have hsz : ∀ es ∈ ys, es.length = (G.T e).size := fun es hes => h1 es hes
        have e1 : ((ys.drop lo).take n).flatten = (ys.flatten.drop (lo * (G.T e).size)).take (n * (G.T e).size) := by
          rw [flatten_take' (G.T e).size _ _ (fun es hes => hsz es (List.mem_of_mem_drop hes)), flatten_drop _ _ _ hsz]
        rw [e1, List.getElem?_take] at hj
        split at hj
        · rw [List.getElem?_drop] at hj; exact hj
        · cases hj
    · rw [List.drop_eq_nil_of_le hge] at hj; simp at hj

theorem rowX_sound (hs : Sim G.T X s a w E) {e : Nat} {x : AV} {y : Value} {ys : List (List Value)} {p : Prop} (h : rowX G s e x = some (ys, p)) (hp : p) (hpe : eqL (winE s x)) (hx : RA s.bs w E x y) : Reads0 w (G.T e).size ys y := by
  unfold rowX at h
  split at h
  · rename_i r e' n0 lo n zs hw
    cases hb : Nat.beq e e' with
    | false => rw [hb] at h; cases h
    | true =>
      rw [hb] at h
      cases h
      have := Nat.eq_of_beq_eq_true hb
      subst this
      obtain ⟨h1, h2⟩ := win_sound hs hw hpe hx
      exact win_reads hs h1 h2
  · exact (rowOf_sound hs h hp hx).less

/-- What an opened row holds turns. -/
theorem buf_step (hs : Sim G.T X s a w E) {r e n0 : Nat} {ys ys' : List (List Value)} (hr : s.bs r = .buf e n0 ys) (hl : ys'.length = ys.length) (hes : ∀ es ∈ ys', es.length = (G.T e).size)
    {w' : World} (hos : w'.os = w.os) (htp : w'.tape = w.tape) (hout : w'.output = w.output) (hgrow : w.heap.size ≤ w'.heap.size) (hkeep : ∀ k, some k ≠ (E.sv r).ownBlock → w'.heap[k]? = w.heap[k]?)
    (hset : ∀ g, (E.sv r).ownBlock = some g → ∃ cur, w'.heap[g]? = some (.cells cur e (0, 0)) ∧ cur.toList = ys'.flatten) (dst : Option Nat) (nx : Nat) {v : AV} {val : Value} (hv : RA (upd s.bs r (.buf e n0 ys')) w' E v val) :
    Sim G.T X (s.app dst ⟨v, [(r, .buf e n0 ys')], nx⟩) (a.put dst val) w' E := by
  have hB := hs.bl.blk r
  rw [hr] at hB
  obtain ⟨h1, h2, h3, h4, h5⟩ := hB
  have hmr : mblk s.bs E r = (E.sv r).ownBlock := by simp [mblk, hr]
  refine one_step (b' := .buf e n0 ys') (E' := E) (w' := w') hs (fun _ _ => ⟨rfl, rfl⟩) rfl ?_ hos htp hout hgrow (fun k _ hne => hkeep k (by rw [← hmr]; exact hne)) (fun _ => ⟨hes, h2, by omega, by omega, ?_⟩) (fun b hb => ?_) dst nx hv
  · intro _
    rw [upd_same]
    refine .inr ⟨ys, hr, hl.symm, rfl, fun k hk es hes' => ?_⟩
    cases ys with
    | nil => cases ys' with
      | nil => cases hes'
      | cons y ys' => simp at hl
    | cons y ys => rw [hes es hes', ← h1 y (by simp)]; exact hk y (by simp)
  · rcases h5 with ⟨q1, q2⟩ | ⟨g, cur, q1, q2, q3⟩
    · exact .inl ⟨q1, by subst q2; exact List.eq_nil_of_length_eq_zero hl⟩
    · obtain ⟨cur', g1, g2⟩ := hset g (by rw [q1]; rfl)
      exact .inr ⟨g, cur', by rw [hl]; exact q1, g1, g2⟩
  · simp only [mblk, upd_same] at hb
    refine ⟨.inl (by rw [← hb, ← hmr]; rfl), ?_⟩
    rcases h5 with ⟨q1, q2⟩ | ⟨g, cur, q1, q2, q3⟩
    · rw [q1] at hb; cases hb
    · rw [q1] at hb; cases hb
      exact Nat.lt_of_lt_of_le (Array.getElem?_eq_some_iff.1 q2).1 hgrow
end
end Go.Fw
/- Opened rows: each operation runs well (2). -/
namespace Go.Fw
open Go Go.RowKit

/-- Cells, cut into elements. -/
theorem chunks {α : Type} (k : Nat) : ∀ (m : Nat) (l : List α), l.length = m * k → ∃ sp : List (List α), sp.length = m ∧ (∀ es ∈ sp, es.length = k) ∧ sp.flatten = l
  | 0, l, h => ⟨[], rfl, by simp, by simp at h; simp [h]⟩
  | m + 1, l, h => by
    rw [Nat.add_mul, Nat.one_mul] at h
    obtain ⟨sp, h1, h2, h3⟩ := chunks k m (l.drop k) (by simp; omega)
    refine ⟨l.take k :: sp, by simp [h1], fun es hes => ?_, by simp [h3]⟩
    rcases List.mem_cons.1 hes with rfl | hes
    · simp; omega
    · exact h2 es hes

section
variable {P : Program} {G : Cfg} (ht : TOK P G.T) {X : Ctx2} {s : St} {a : Act} {w : World} {E : Env} {Qc : Exit → Act → World → Prop} {K : Eff → Prop}

theorem boundsC_run {len cap : Nat} (hc : len ≤ cap) {lo hi : Option Value} {l h : Int} (hl : (lo = none ∧ l = 0) ∨ ∃ k, lo = some (.int k l)) (hh : (hi = none ∧ h = len) ∨ ∃ k, hi = some (.int k h))
    (h0 : 0 ≤ l) (h1 : l ≤ h) (h2 : h ≤ cap) : (Instr.sliceBounds true len cap lo hi none).run P w = .ok (l.toNat, h.toNat, cap) w := by
  have eh : ((h.toNat : Nat) : Int) = h := by omega
  have h0' : 0 ≤ h := by omega
  rcases hl with ⟨rfl, rfl⟩ | ⟨k, rfl⟩ <;> rcases hh with ⟨rfl, rfl⟩ | ⟨k', rfl⟩ <;>
    simp [Instr.sliceBounds, Instr.sliceBound, asIntOf, h0, h1, h0', h2, eh]
theorem boundsC_run3 {len cap : Nat} {lo : Option Value} {l h m : Int} {k' k'' : IntKind} (hl : (lo = none ∧ l = 0) ∨ ∃ k, lo = some (.int k l))
    (h0 : 0 ≤ l) (h1 : l ≤ h) (h2 : h ≤ m) (hm : m ≤ cap) : (Instr.sliceBounds true len cap lo (some (.int k' h)) (some (.int k'' m))).run P w = .ok (l.toNat, h.toNat, m.toNat) w := by
  have eh : ((h.toNat : Nat) : Int) = h := by omega
  have em : ((m.toNat : Nat) : Int) = m := by omega
  have h0' : 0 ≤ h := by omega
  have h0'' : 0 ≤ m := by omega
  rcases hl with ⟨rfl, rfl⟩ | ⟨k, rfl⟩ <;>
    simp [Instr.sliceBounds, Instr.sliceBound, asIntOf, h0, h1, h0', h0'', h2, hm, eh, em]

/-- A part of a part. -/
theorem RWin.part {ys : List (List Value)} {b0 : Option Nat} {lo n : Nat} {ad : Option Addr} {cap : Nat} (h : RWin ys b0 lo n (.slice ad n cap)) {size : Nat} (hsz : ∀ es ∈ ys, es.length = size) {l hh : Nat} (h1 : l ≤ hh) (h2 : hh ≤ ys.length - lo) :
    RWin ys b0 (lo + l) (hh - l) (.slice (if cap = l then ad else ad.map (·.add (l * size))) (hh - l) (cap - l)) := by
  obtain ⟨g1, ad', g2, g3⟩ := h
  cases g2
  refine ⟨by omega, _, by rw [Nat.sub_add_eq], fun hc => ?_⟩
  rcases hc with hc | hc
  · obtain ⟨k, q1, q2⟩ := g3 (.inl (by omega))
    refine ⟨k, q1, ?_⟩
    rw [if_neg (by omega), q2]
    have hk : k = size := by
      obtain ⟨es, hes⟩ : ∃ es, es ∈ ys := ⟨ys[lo]'(by omega), List.getElem_mem _⟩
      rw [← q1 es hes, hsz es hes]
    cases b0 with
    | none => rfl
    | some g => simp [addr_add, hk, Nat.add_mul]
  · have hlo : lo = 0 := by omega
    have hl0 : l = 0 := by omega
    subst hlo hl0
    obtain ⟨k, q1, q2⟩ := g3 (.inr rfl)
    refine ⟨k, q1, ?_⟩
    split
    · simpa using q2
    · rw [q2]
      cases b0 with
      | none => rfl
      | some g => simp [addr_add]

theorem optI_sound (hs : Sim G.T X s a w E) {x : Option Operand} {i : Option Int} (h : optI s x = some i) (d : Int) : (x.map a.eval = none ∧ i = none ∧ i.getD d = d) ∨ ∃ k, x.map a.eval = some (.int k (i.getD d)) ∧ i.isSome = true := by
  unfold optI at h
  cases x with
  | none => simp at h; subst h; exact .inl ⟨rfl, rfl, rfl⟩
  | some o =>
    simp only [Option.map_eq_some_iff] at h
    obtain ⟨j, h1, rfl⟩ := h
    obtain ⟨k, hk⟩ := intOf_sound hs h1
    exact .inr ⟨k, by simp [hk], rfl⟩

include ht
/-- A part of an opened row: what the expression comes to, and whatever holds of a state in which it is opened. -/
theorem sliceX_run (hs : Sim G.T X s a w E) {t e : Nat} (hk : (G.T t).k = .slice e) (hok : okT G e = true) {lo hi mx : Option Operand} {l h m : Option Int} (hlo : optI s lo = some l) (hhi : optI s hi = some h) (hmx : optI s mx = some m) (hmh : (m.isNone || h.isSome) = true)
    {ys : List (List Value)} (hsz : ∀ es ∈ ys, es.length = (G.T e).size) {b0 : Option Nat} {lo0 n : Nat} {y : Value} (hw : RWin ys b0 lo0 n y)
    (hside : lo0 + n ≤ ys.length ∧ 0 ≤ l.getD 0 ∧ l.getD 0 ≤ h.getD n ∧ mxOK m (h.getD n) (ys.length - lo0)) :
    ∃ val, (Instr.sliceAt t y (lo.map a.eval) (hi.map a.eval) (mx.map a.eval)).run P w = .ok val w ∧ val.oneCell' = true ∧
      (m = none → RWin ys b0 (lo0 + (l.getD 0).toNat) (h.getD n - l.getD 0).toNat val) := by
  obtain ⟨c0, c1, c2, c3⟩ := hside
  obtain ⟨_, ad, rfl, _⟩ := id hw
  have hu := ht.slice hk
  have hsize : (sizeOf e).run P w = .ok (sizeT G e) w := ht.sizeOf (okT_ne ht hok) w
  have ol : (lo.map a.eval = none ∧ l.getD 0 = 0) ∨ ∃ k, lo.map a.eval = some (.int k (l.getD 0)) := (optI_sound hs hlo 0).imp (fun h => ⟨h.1, h.2.2⟩) fun ⟨k, h1, _⟩ => ⟨k, h1⟩
  have oh : (hi.map a.eval = none ∧ h.getD (n : Int) = n) ∨ ∃ k, hi.map a.eval = some (.int k (h.getD n)) := (optI_sound hs hhi (n : Int)).imp (fun h => ⟨h.1, h.2.2⟩) fun ⟨k, h1, _⟩ => ⟨k, h1⟩
  cases m with
  | none =>
    simp only [mxOK] at c3
    have hb := boundsC_run (P := P) (w := w) (len := n) (cap := ys.length - lo0) (by omega) ol oh c1 c2 c3
    have hm0 : mx.map a.eval = none := by
      rcases optI_sound hs hmx 0 with ⟨h1, _⟩ | ⟨k, h1, h2⟩
      · exact h1
      · cases h2
    have hp := hw.part hsz (l := (l.getD 0).toNat) (hh := (h.getD n).toNat) (by omega) (by omega)
    refine ⟨.slice (if ys.length - lo0 = (l.getD 0).toNat then ad else ad.map (·.add ((l.getD 0).toNat * (G.T e).size))) ((h.getD n).toNat - (l.getD 0).toNat) (ys.length - lo0 - (l.getD 0).toNat), ?_, rfl, fun _ => ?_⟩
    · rw [hm0]
      simp only [Instr.sliceAt, Sem.run_bind, run_underlying hu, Result.andThen_ok, Instr.slice, hb, hsize, Sem.run_pure]
      rfl
    · have e : (h.getD n - l.getD 0).toNat = (h.getD n).toNat - (l.getD 0).toNat := by omega
      rw [e]
      exact hp
  | some m =>
    simp only [mxOK] at c3
    simp only [Option.isNone_some, Bool.false_or] at hmh
    obtain ⟨kh, hkh⟩ : ∃ k, hi.map a.eval = some (.int k (h.getD n)) := by
      rcases optI_sound hs hhi (n : Int) with ⟨_, h2, _⟩ | ⟨k, h1, _⟩
      · rw [h2] at hmh; cases hmh
      · exact ⟨k, h1⟩
    obtain ⟨km, hkm⟩ : ∃ k, mx.map a.eval = some (.int k m) := by
      rcases optI_sound hs hmx 0 with ⟨_, h2, _⟩ | ⟨k, h1, _⟩
      · cases h2
      · exact ⟨k, h1⟩
    have hb := boundsC_run3 (P := P) (w := w) (len := n) (cap := ys.length - lo0) (k' := kh) (k'' := km) ol c1 c2 c3.1 c3.2
    refine ⟨.slice (if m.toNat = (l.getD 0).toNat then ad else ad.map (·.add ((l.getD 0).toNat * (G.T e).size))) ((h.getD n).toNat - (l.getD 0).toNat) (m.toNat - (l.getD 0).toNat), ?_, rfl, fun h => by cases h⟩
    rw [hkh, hkm]
    simp only [Instr.sliceAt, Sem.run_bind, run_underlying hu, Result.andThen_ok, Instr.slice, hb, hsize, Sem.run_pure]
    rfl

/-- A row of one's own is opened. -/
theorem open_step (hs : Sim G.T X s a w E) {r e n : Nat} {xs : List (List Value)} (hr : s.bs r = .vec e xs false) (hn : xs.length = n) :
    ∃ sp : List (List Value), (∀ es ∈ sp, es.length = (G.T e).size) ∧ n + sp.length ≤ 9223372036854775807 ∧ Sim G.T X { s with bs := updL s.bs [(r, .buf e n (xs ++ sp))] } a w E ∧ RWin (xs ++ sp) (E.sv r).ownBlock 0 n (E.sv r) := by
  have hB := hs.bl.blk r
  rw [hr] at hB
  obtain ⟨h1, h2, h3, ho, _⟩ := hB
  have hmr : mblk s.bs E r = (E.sv r).ownBlock := by simp [mblk, hr]
  -- what lies behind
  obtain ⟨sp, g1, g2, g3⟩ : ∃ sp : List (List Value), (∀ es ∈ sp, es.length = (G.T e).size) ∧ n + sp.length ≤ 9223372036854775807 ∧
      ((E.sv r = .slice none 0 0 ∧ xs ++ sp = []) ∨ ∃ g cur, E.sv r = .slice (some ⟨g, 0, none⟩) n (xs ++ sp).length ∧ w.heap[g]? = some (.cells cur e (0, 0)) ∧ cur.toList = (xs ++ sp).flatten) := by
    rcases ho.2 with ⟨q1, q2⟩ | ⟨g, cap, cur, q1, _, q2, q3, q4, q5, q6⟩
    · have : xs = [] := List.eq_nil_of_length_eq_zero q2
      subst this
      exact ⟨[], by simp, by simp at hn; simp [← hn], .inl ⟨q1, rfl⟩⟩
    · obtain ⟨sp, c1, c2, c3⟩ := chunks (G.T e).size (cap - xs.length) (cur.toList.drop (xs.length * (G.T e).size)) (by
        rw [List.length_drop, Array.length_toList, q5, Nat.sub_mul])
      refine ⟨sp, c2, by rw [c1]; have : cap ≤ 9223372036854775807 := q4; omega, .inr ⟨g, cur, ?_, q2, ?_⟩⟩
      · rw [q1, ← hn, List.length_append, c1]
        congr 1
        omega
      · rw [List.flatten_append, c3, ← q6, List.take_append_drop]
  have hlen : ∀ es ∈ xs ++ sp, es.length = (G.T e).size := fun es hes => by
    rcases List.mem_append.1 hes with h | h
    · exact (h1 es h).1
    · exact g1 es h
  have hwin : RWin (xs ++ sp) (E.sv r).ownBlock 0 n (E.sv r) := by
    rcases g3 with ⟨q1, q2⟩ | ⟨g, cur, q1, q2, q3⟩
    · have : xs = [] := (List.append_eq_nil_iff.1 q2).1
      subst this
      have hn0 : n = 0 := by simpa using hn.symm
      subst hn0
      refine ⟨by simp, none, by rw [q1, q2]; rfl, fun _ => ⟨(G.T e).size, hlen, by rw [q1]; rfl⟩⟩
    · refine ⟨by rw [List.length_append, ← hn]; omega, _, q1, fun _ => ⟨(G.T e).size, hlen, by rw [q1]; simp [Value.ownBlock]⟩⟩
  refine ⟨sp, g1, g2, ?_, hwin⟩
  have := one_step (b' := .buf e n (xs ++ sp)) (E' := E) (w' := w) hs (fun _ _ => ⟨rfl, rfl⟩) rfl ?_ rfl rfl rfl (Nat.le_refl _) (fun _ _ _ => rfl) (fun _ => ⟨hlen, h2, by rw [List.length_append, hn]; exact g2, by rw [List.length_append, hn]; omega, g3⟩) (fun b hb => ?_) none s.nx (v := .junk) (val := undef) (RA_junk _ _)
  · exact this
  · intro _
    rw [upd_same]
    exact .inl ⟨e, xs, false, hr, by omega, fun _ => hwin⟩
  · simp only [mblk, upd_same] at hb
    exact ⟨.inl (by rw [← hb, ← hmr]; rfl), (hs.bl.mt r b (by rw [hmr]; exact hb)).2⟩
end
end Go.Fw
/- Opened rows: append, copy, clear, overlaps. -/
namespace Go.Fw
open Go Go.RowKit

section
variable {P : Program} {G : Cfg} (ht : TOK P G.T) {X : Ctx2} {s : St} {a : Act} {w : World} {E : Env} {Qc : Exit → Act → World → Prop} {K : Eff → Prop}

theorem zeroCells_flat (z : Array Value) (hz : 0 < z.size) (n : Nat) : (Builtin.zeroCells z n).toList = (List.replicate n z.toList).flatten := by
  apply List.ext_getElem?
  intro j
  have hl : z.toList.length = z.size := by simp
  by_cases hj : j < n * z.size
  · rw [rep_flat z.toList (by omega) n j (by rw [hl]; exact hj), hl]
    have hm : j % z.size < z.size := Nat.mod_lt _ hz
    simp only [Builtin.zeroCells, Array.toList_map, List.getElem?_map]
    simp [hj]
    rw [Array.getElem?_eq_getElem hm, getElem!_pos z (j % z.size) hm]
  · rw [List.getElem?_eq_none (by simp [Builtin.zeroCells]; omega), List.getElem?_eq_none]
    rw [flatten_len z.toList.length _ fun es he => by rw [List.eq_of_mem_replicate he]]
    rw [hl]; simp; omega

/-- Where an opened row lies. -/
theorem buf_at (hs : Sim G.T X s a w E) {r e n0 n : Nat} {ys : List (List Value)} {v : Value} (hr : s.bs r = .buf e n0 ys) (hw : RWin ys (E.sv r).ownBlock 0 n v) (hne : ys ≠ []) :
    ∃ g cur, (E.sv r).ownBlock = some g ∧ v = .slice (some ⟨g, 0, none⟩) n ys.length ∧ w.heap[g]? = some (.cells cur e (0, 0)) ∧ cur.toList = ys.flatten ∧ n ≤ ys.length := by
  have hB := hs.bl.blk r
  rw [hr] at hB
  obtain ⟨_, _, _, _, h5⟩ := hB
  obtain ⟨g1, ad, g2, g3⟩ := hw
  obtain ⟨k, _, g4⟩ := g3 (.inr rfl)
  rcases h5 with ⟨_, q⟩ | ⟨g, cur, q1, q2, q3⟩
  · exact absurd q hne
  · refine ⟨g, cur, by rw [q1]; rfl, ?_, q2, q3, by omega⟩
    rw [g2, g4, q1]; simp [Value.ownBlock]

theorem buf_len (hs : Sim G.T X s a w E) {r e n0 : Nat} {ys : List (List Value)} (hr : s.bs r = .buf e n0 ys) : (∀ es ∈ ys, es.length = (G.T e).size) ∧ 0 < (G.T e).size ∧ ys.length ≤ 9223372036854775807 := by
  have hB := hs.bl.blk r
  rw [hr] at hB
  exact ⟨hB.1, hB.2.1, hB.2.2.1⟩

/-- The cells of a row are turned from a place on. -/
theorem mid_step (hs : Sim G.T X s a w E) {r e n0 lo g : Nat} {ys zs : List (List Value)} {cur : Array Value} (hr : s.bs r = .buf e n0 ys) (hg : (E.sv r).ownBlock = some g) (hh : w.heap[g]? = some (.cells cur e (0, 0))) (hc : cur.toList = ys.flatten)
    (hz : ∀ es ∈ zs, es.length = (G.T e).size) (hlo : lo + zs.length ≤ ys.length) (dst : Option Nat) (nx : Nat) {v : AV} {val : Value}
    (hv : RA (upd s.bs r (.buf e n0 (ys.take lo ++ zs ++ ys.drop (lo + zs.length)))) (w.setRow g (cur.toList.take (lo * (G.T e).size) ++ zs.flatten ++ cur.toList.drop (lo * (G.T e).size + zs.flatten.length)).toArray) E v val) :
    Sim G.T X (s.app dst ⟨v, [(r, .buf e n0 (ys.take lo ++ zs ++ ys.drop (lo + zs.length)))], nx⟩) (a.put dst val)
      (w.setRow g (cur.toList.take (lo * (G.T e).size) ++ zs.flatten ++ cur.toList.drop (lo * (G.T e).size + zs.flatten.length)).toArray) E := by
  obtain ⟨h1, h2, h3⟩ := buf_len hs hr
  refine buf_step (ys' := ys.take lo ++ zs ++ ys.drop (lo + zs.length)) (w' := w.setRow g (cur.toList.take (lo * (G.T e).size) ++ zs.flatten ++ cur.toList.drop (lo * (G.T e).size + zs.flatten.length)).toArray) hs hr (by simp; omega) (fun es hes => ?_) rfl rfl rfl (by rw [size_setRow]; exact Nat.le_refl _) (fun k hne => setRow_other w g k _ fun e => hne (by rw [hg, e])) (fun g' hg' => ?_) dst nx hv
  · simp only [List.mem_append] at hes
    rcases hes with (h | h) | h
    · exact h1 es (List.mem_of_mem_take h)
    · exact hz es h
    · exact h1 es (List.mem_of_mem_drop h)
  · rw [hg] at hg'; cases hg'
    exact ⟨_, setRow_heap w _ cur _ e _ hh, by rw [flatten_mid _ _ _ _ h1 hz, hc]⟩

theorem newrow_step (hs : Sim G.T X s a w E) {e need old : Nat} {xs : List (List Value)} (hnx : s.bs s.nx = .none) {z : Value} (hzs : z.cells.size = (G.T e).size) (hsz : 0 < (G.T e).size) (hx : ∀ es ∈ xs, es.length = (G.T e).size ∧ ∀ u ∈ es, u.oneCell' = true)
    (hl : xs.length = need) (ho : old < need) (h47 : need ≤ 140737488355328) (dst : Option Nat) {ar : Array Value} (har : ar = xs.flatten.toArray ++ Builtin.zeroCells z.cells (grownCap w need old e - need)) :
    ∃ E', Sim G.T X (s.app dst ⟨.one (.ref s.nx need), [(s.nx, .vec e xs false)], s.nx + 1⟩) (a.put dst (.slice (some ⟨w.heap.size, 0, none⟩) need (grownCap w need old e))) (w.drew.alloc (.cells ar e)) E' := by
  subst har
  have hlen : xs.flatten.length = need * (G.T e).size := by rw [← hl]; exact flatten_len _ _ fun es hes => (hx es hes).1
  have hg := grown_own (w := w) (e := e) z hzs xs.flatten [] (n := need) (m := 0) hlen (by simp) old (by omega) (by unfold maxLen; omega)
  simp only [List.append_nil, Nat.add_zero] at hg
  have e0 : xs.flatten.toArray ++ ([] : List Value).toArray = xs.flatten.toArray := by simp
  rw [e0] at hg
  have hown : (w.drew.alloc (.cells (xs.flatten.toArray ++ Builtin.zeroCells z.cells (grownCap w need old e - need)) e)).ownsRow 0 e (G.T e).size (.slice (some ⟨w.heap.size, 0, none⟩) need (grownCap w need old e)) xs.length xs.flatten := by rw [hl]; exact hg
  exact ⟨_, vec_step hs (e := e) (xs' := xs) (w' := w.drew.alloc (.cells (xs.flatten.toArray ++ Builtin.zeroCells z.cells (grownCap w need old e - need)) e)) (v' := .slice (some ⟨w.heap.size, 0, none⟩) need (grownCap w need old e)) (.inl hnx) (fun xs h => by rw [hnx] at h; cases h) (fun xs h => by rw [hnx] at h; cases h) rfl rfl rfl (by rw [size_alloc]; exact Nat.le_succ _)
    (fun k hk _ => heap_alloc_old w.drew _ k hk) hx hsz (by omega) hown (fun b hb => by cases hb; exact .inr (Nat.le_refl _)) dst _ (ref_val hl.symm hown)⟩

include ht
theorem appendX_sound (hs : Sim G.T X s a w E) {t e r n0 n : Nat} {ys zs : List (List Value)} {v y : Value} (ty : TypeId) (hk : (G.T t).k = .slice e) (hok : okT G e = true) (hnx : s.bs s.nx = .none) (hr : s.bs r = .buf e n0 ys) (hw : RWin ys (E.sv r).ownBlock 0 n v)
    (hy : Reads0 w (G.T e).size zs y) {p : Prop} (dst : Option Nat) (h : (appendX G s e r n0 n ys zs p).wp K) :
    ∃ v' w' e' E', (Builtin.append_ #[t, t] ty #[v, y]).run P w = .ok v' w' ∧ K e' ∧ Sim G.T X (s.app dst e') (a.put dst v') w' E' := by
  obtain ⟨⟨_, hn, hone⟩, hask⟩ := h
  obtain ⟨h1, h2, h3⟩ := buf_len hs hr
  obtain ⟨i, hi, his, hib, hiz⟩ := ht.info2 (okT_ne ht hok)
  have hu := ht.slice hk
  obtain ⟨ad, cap, rfl, g1, g2, g3⟩ := hy
  have hzc : ((G.T e).zero.cells).size = (G.T e).size := by
    rw [← (ht e (okT_ne ht hok)).2.2.2.1]; simp
  have hK := hask.h _ rfl
  by_cases hz0 : zs = []
  · -- nothing is appended
    subst hz0
    have hd : decide (n + ([] : List (List Value)).length ≤ ys.length) = true := by simpa using hn
    rw [hd] at hK
    have e0 : ys.take n ++ [] ++ ys.drop (n + ([] : List (List Value)).length) = ys := by simp
    simp only [cond_true, e0] at hK
    obtain ⟨q1, ad', q2, q3⟩ := id hw
    have hrun : (Builtin.append_ #[t, t] ty #[v, .slice ad ([] : List (List Value)).length cap]).run P w = .ok v w := by
      rw [q2]
      have hle : n ≤ ys.length - 0 := by omega
      cases ad <;> cases ad' <;> simp [Builtin.append_, run_underlying hu, sizeOf, typeInfo, hi, Builtin.lenOf, Builtin.firstCells, loadCells, loadCellsFrom, storeCells, hn]
    refine ⟨v, w, _, E, hrun, hK, ?_⟩
    have hB := hs.bl.blk r
    rw [hr] at hB
    refine buf_step hs hr rfl h1 rfl rfl rfl (Nat.le_refl _) (fun _ _ => rfl) (fun g hg => ?_) dst s.nx ?_
    · rcases hB.2.2.2.2 with ⟨c1, _⟩ | ⟨g', cur, c1, c2, c3⟩
      · rw [c1] at hg; cases hg
      · rw [c1] at hg; cases hg; exact ⟨cur, c2, c3⟩
    · refine ⟨?_, by rw [q2]; rfl⟩
      simp only [RC, upd_same]
      simpa using hw
  · have hpos : 0 < zs.length := by cases zs <;> simp_all
    cases ad with
    | none => exact absurd (g1 rfl) hz0
    | some d =>
      have hnews : ∀ j u, zs.flatten[j]? = some u → w.cell? (d.add j) = some u := fun j u hj => g3 d rfl j u hj
      have hlz : zs.flatten.length = zs.length * i.size := by rw [his]; exact flatten_len _ _ g2
      have h1z : ∀ u ∈ zs.flatten, u.oneCell' = true := fun u hu => by
        obtain ⟨es, hes, hue⟩ := List.mem_flatten.1 hu
        exact hone es hes u hue
      cases hfit : decide (n + zs.length ≤ ys.length) with
      | true =>
        rw [hfit] at hK
        have hfit' : n + zs.length ≤ ys.length := by simpa using hfit
        have hyne : ys ≠ [] := by intro e; rw [e, List.length_nil] at hfit'; omega
        obtain ⟨g, cur, c1, rfl, c3, c4, c5⟩ := buf_at hs hr hw hyne
        have hcs : cur.size = ys.length * (G.T e).size := by rw [← Array.length_toList, c4]; exact flatten_len _ _ h1
        have hrun := run_append_room (P := P) w t ty e i hu hi g n ys.length cur c3 d zs.length cap zs.flatten hlz hnews h1z hfit' (by
          rw [hlz, hcs, his, ← Nat.add_mul]; exact Nat.mul_le_mul_right _ hfit')
        rw [his] at hrun
        refine ⟨_, _, _, E, hrun, hK, mid_step hs hr c1 c3 c4 g2 hfit' dst s.nx ⟨?_, rfl⟩⟩
        simp only [RC, upd_same]
        have hl' : (ys.take n ++ zs ++ ys.drop (n + zs.length)).length = ys.length := by simp; omega
        refine ⟨by rw [hl']; omega, _, by rw [hl']; rfl, fun _ => ⟨(G.T e).size, fun es hes => ?_, by rw [c1]; simp⟩⟩
        simp only [List.mem_append] at hes
        rcases hes with (h | h) | h
        · exact h1 es (List.mem_of_mem_take h)
        · exact g2 es h
        · exact h1 es (List.mem_of_mem_drop h)
      | false =>
        rw [hfit] at hK
        obtain ⟨⟨hf, hone'⟩, hK⟩ := hK
        have hfit' : ys.length < n + zs.length := by simpa using hfit
        have hf1 : (n + zs.length) * i.bytes ≤ 140737488355328 := by rw [hib]; exact hf.1
        have hxs : ∀ es ∈ ys.take n ++ zs, es.length = (G.T e).size ∧ ∀ u ∈ es, u.oneCell' = true := fun es hes => by
          rcases List.mem_append.1 hes with h | h
          · exact ⟨h1 es (List.mem_of_mem_take h), hone' es h⟩
          · exact ⟨g2 es h, hone es h⟩
        have hll : (ys.take n ++ zs).length = n + zs.length := by simp; omega
        by_cases hyne : ys = []
        · subst hyne
          have hn0 : n = 0 := by simpa using hn
          subst hn0
          have hB := hs.bl.blk r
          rw [hr] at hB
          have hv : v = .slice none 0 0 ∨ ∃ g, v = .slice (some ⟨g, 0, none⟩) 0 0 := by
            obtain ⟨_, ad', q2, q3⟩ := hw
            obtain ⟨k, _, q4⟩ := q3 (.inr rfl)
            rw [q2, q4]
            cases (E.sv r).ownBlock with
            | none => exact .inl rfl
            | some g => exact .inr ⟨g, by simp⟩
          rcases hv with rfl | ⟨g, rfl⟩
          · obtain ⟨E', hsim⟩ := newrow_step (need := 0 + zs.length) (old := 0) hs hnx hzc h2 hxs hll (by omega) hf.2 dst rfl
            simp only [Nat.zero_add] at hf1 hK hsim
            refine ⟨_, _, _, E', run_append_nil (P := P) w t ty e i _ hu hi hiz d zs.length cap zs.flatten hlz hnews hpos (by have := hf.2; omega) (by omega), hK, ?_⟩
            simpa using hsim
          · obtain ⟨E', hsim⟩ := newrow_step (need := 0 + zs.length) (old := 0) hs hnx hzc h2 hxs hll (by omega) hf.2 dst rfl
            refine ⟨_, _, _, E', run_append_grow (P := P) w t ty e i _ hu hi hiz ⟨g, 0, none⟩ 0 0 [] (by simp) (by simp) d zs.length cap zs.flatten hlz hnews (by omega) (by have := hf.2; omega) (growslice_fits (by omega) hf1), hK, ?_⟩
            simpa using hsim
        · obtain ⟨g, cur, c1, rfl, c3, c4, c5⟩ := buf_at hs hr hw hyne
          have holds : ∀ j u, (ys.take n).flatten[j]? = some u → w.cell? ((⟨g, 0, none⟩ : Addr).add j) = some u := fun j u hj => by
            rw [addr_add, cell_of_row w _ _ cur e (0, 0) c3, ← Array.getElem?_toList, c4, Nat.zero_add]
            rw [flatten_take' _ _ _ h1, List.getElem?_take] at hj
            split at hj
            · exact hj
            · cases hj
          have hlo : (ys.take n).flatten.length = n * i.size := by
            rw [his, flatten_len _ _ fun es hes => h1 es (List.mem_of_mem_take hes), List.length_take, Nat.min_eq_left hn]
          obtain ⟨E', hsim⟩ := newrow_step (need := n + zs.length) (old := ys.length) hs hnx hzc h2 hxs hll (by omega) hf.2 dst rfl
          refine ⟨_, _, _, E', run_append_grow (P := P) w t ty e i _ hu hi hiz ⟨g, 0, none⟩ n ys.length (ys.take n).flatten hlo holds d zs.length cap zs.flatten hlz hnews (by omega) (by have := hf.2; omega) (growslice_fits (by omega) hf1), hK, ?_⟩
          rw [List.flatten_append] at hsim
          simpa using hsim

/-- append of so many noughts: a new row. -/
theorem appendZ_sound (hs : Sim G.T X s a w E) {t tn e r n0 n k : Nat} {ys : List (List Value)} {v : Value} {ik : IntKind} {z : List Value} (ty : TypeId) (hk : (G.T t).k = .slice e) (htn : P.underlying tn = some (.int ik)) (hok : okT G e = true) (hnx : s.bs s.nx = .none) (hr : s.bs r = .buf e n0 ys) (hw : RWin ys (E.sv r).ownBlock 0 n v)
    (hz : (G.T e).zero.cells.toList = z) (hz1 : ∀ u ∈ z, u.oneCell' = true) (hyne : ys ≠ []) (hn : n ≤ ys.length) (hfull : ys.length < n + k) (hf : fits G e (n + k)) (hone : oneL (ys.take n)) (dst : Option Nat) {kn : IntKind} :
    ∃ v' w' E', (Builtin.append_ #[t, tn] ty #[v, .int kn k]).run P w = .ok v' w' ∧ Sim G.T X (s.app dst ⟨.one (.ref s.nx (n + k)), [(s.nx, .vec e (ys.take n ++ List.replicate k z) false)], s.nx + 1⟩) (a.put dst v') w' E' := by
  obtain ⟨h1, h2, h3⟩ := buf_len hs hr
  obtain ⟨i, hi, his, hib, hiz⟩ := ht.info2 (okT_ne ht hok)
  have hu := ht.slice hk
  have hzc : ((G.T e).zero.cells).size = (G.T e).size := by
    rw [← (ht e (okT_ne ht hok)).2.2.2.1]; simp
  have hzl : z.length = (G.T e).size := by rw [← hz]; simp [hzc]
  have hf1 : (n + k) * i.bytes ≤ 140737488355328 := by rw [hib]; exact hf.1
  have hf2 := hf.2
  obtain ⟨g, cur, c1, rfl, c3, c4, c5⟩ := buf_at hs hr hw hyne
  have holds : ∀ j u, (ys.take n).flatten[j]? = some u → w.cell? ((⟨g, 0, none⟩ : Addr).add j) = some u := fun j u hj => by
    rw [addr_add, cell_of_row w _ _ cur e (0, 0) c3, ← Array.getElem?_toList, c4, Nat.zero_add]
    rw [flatten_take' _ _ _ h1, List.getElem?_take] at hj
    split at hj
    · exact hj
    · cases hj
  have hlo : (ys.take n).flatten.length = n * i.size := by
    rw [his, flatten_len _ _ fun es hes => h1 es (List.mem_of_mem_take hes), List.length_take, Nat.min_eq_left hn]
  have hxs : ∀ es ∈ ys.take n ++ List.replicate k z, es.length = (G.T e).size ∧ ∀ u ∈ es, u.oneCell' = true := fun es hes => by
    rcases List.mem_append.1 hes with h | h
    · exact ⟨h1 es (List.mem_of_mem_take h), hone es h⟩
    · rw [List.eq_of_mem_replicate h]; exact ⟨hzl, hz1⟩
  have hll : (ys.take n ++ List.replicate k z).length = n + k := by simp; omega
  have hkp : 0 < k := by omega
  obtain ⟨E', hsim⟩ := newrow_step (need := n + k) (old := ys.length) hs hnx hzc h2 hxs hll (by omega) hf.2 dst rfl
  refine ⟨_, _, E', ?_, hsim⟩
  have hwk : IntKind.i64.wrap (k : Int) = k := by rw [IntKind.wrap_i64]; omega
  have hn' : ¬ (n + k ≤ ys.length) := by omega
  have h63' : ¬ (9223372036854775807 < ((n : Int) + (k : Int))) := by omega
  have h48' : ¬ (281474976710656 < Builtin.nextslicecap (n + k) ys.length * i.bytes) := by have := growslice_fits (need := n + k) (old := ys.length) (by omega) hf1; omega
  have hkb : k * i.bytes ≤ 140737488355328 := Nat.le_trans (Nat.mul_le_mul_right _ (Nat.le_add_left k n)) hf1
  have h48i : ¬ (281474976710656 < (k : Int) * (i.bytes : Int)) := by
    rw [← Int.natCast_mul]
    omega
  have hneg : ¬ ((k : Int) < 0) := by omega
  have hns : ¬ (k * i.size = 0) := Nat.mul_ne_zero (by omega) (by omega)
  have hfo := run_firstCells_some (P := P) w.drew i.size n ⟨g, 0, none⟩ n ys.length (ys.take n).flatten hlo (by simpa using holds)
  have hzf := zeroCells_flat (G.T e).zero.cells (by omega) k
  simp [Builtin.append_, run_underlying hu, run_underlying htn, sizeOf, typeInfo, zeroValue, hi, hiz, asInt, asIntOf, hwk, hn', hneg, hns, h63', h48', h48i, Question.forced, hfo, newRow, grownCap]
  congr 2
  apply Array.ext'
  simp [hzf, hz]

theorem appendN_sound (hs : Sim G.T X s a w E) {t tn e k : Nat} {v : Value} {ik : IntKind} {z : List Value} (ty : TypeId) (hk : (G.T t).k = .slice e) (htn : P.underlying tn = some (.int ik)) (hok : okT G e = true) (hnx : s.bs s.nx = .none) (hv : v = .slice none 0 0)
    (hz : (G.T e).zero.cells.toList = z) (hz1 : ∀ u ∈ z, u.oneCell' = true) (hkp : 0 < k) (hf : fits G e k) (hsz : 0 < sizeT G e) (dst : Option Nat) {kn : IntKind} :
    ∃ v' w' E', (Builtin.append_ #[t, tn] ty #[v, .int kn k]).run P w = .ok v' w' ∧ Sim G.T X (s.app dst ⟨.one (.ref s.nx k), [(s.nx, .vec e (List.replicate k z) false)], s.nx + 1⟩) (a.put dst v') w' E' := by
  obtain ⟨i, hi, his, hib, hiz⟩ := ht.info2 (okT_ne ht hok)
  have hu := ht.slice hk
  have hzc : ((G.T e).zero.cells).size = (G.T e).size := by
    rw [← (ht e (okT_ne ht hok)).2.2.2.1]; simp
  have hzl : z.length = (G.T e).size := by rw [← hz]; simp [hzc]
  have hf1 : k * i.bytes ≤ 140737488355328 := by rw [hib]; exact hf.1
  have hf2 := hf.2
  have hsz' : 0 < (G.T e).size := hsz
  have hxs : ∀ es ∈ List.replicate k z, es.length = (G.T e).size ∧ ∀ u ∈ es, u.oneCell' = true := fun es hes => by
    rw [List.eq_of_mem_replicate hes]; exact ⟨hzl, hz1⟩
  obtain ⟨E', hsim⟩ := newrow_step (need := k) (old := 0) hs hnx hzc hsz' hxs (by simp) (by omega) hf.2 dst rfl
  refine ⟨_, _, E', ?_, hsim⟩
  rw [hv, Lib.run_append_nil_zeros (P := P) w t tn ty e i _ kn ik hu htn hi hiz k hkp (by omega) (by omega) (by omega)]
  congr 3
  apply Array.ext'
  simp [zeroCells_flat (G.T e).zero.cells (by omega) k, hz]
end
end Go.Fw
/- Opened rows: copy, clear, overlaps; nil; type assertions. -/
namespace Go.Fw
open Go Go.RowKit

section
variable {P : Program} {G : Cfg} (ht : TOK P G.T) {X : Ctx2} {s : St} {a : Act} {w : World} {E : Env} {Qc : Exit → Act → World → Prop} {K : Eff → Prop}

/-- Where a part of an opened row lies. -/
theorem win_at (hs : Sim G.T X s a w E) {r e n0 lo n : Nat} {ys : List (List Value)} {v : Value} (hr : s.bs r = .buf e n0 ys) (hw : RWin ys (E.sv r).ownBlock lo n v) (hn : 0 < n) :
    ∃ g cur, (E.sv r).ownBlock = some g ∧ v = .slice (some ⟨g, lo * (G.T e).size, none⟩) n (ys.length - lo) ∧ w.heap[g]? = some (.cells cur e (0, 0)) ∧ cur.toList = ys.flatten ∧ lo + n ≤ ys.length := by
  have hB := hs.bl.blk r
  rw [hr] at hB
  obtain ⟨h1, _, _, _, h5⟩ := hB
  obtain ⟨g1, ad, g2, g3⟩ := hw
  obtain ⟨k, gk, g4⟩ := g3 (.inl (by omega))
  have hk : k = (G.T e).size := by
    obtain ⟨es, hes⟩ : ∃ es, es ∈ ys := ⟨ys[lo]'(by omega), List.getElem_mem _⟩
    rw [← gk es hes, h1 es hes]
  rcases h5 with ⟨_, q⟩ | ⟨g, cur, q1, q2, q3⟩
  · subst q; simp at g1; omega
  · refine ⟨g, cur, by rw [q1]; rfl, ?_, q2, q3, g1⟩
    rw [g2, g4, q1, ← hk]; simp [Value.ownBlock]

/-- Nothing turns. -/
theorem same_step (hs : Sim G.T X s a w E) {r e n0 : Nat} {ys : List (List Value)} (hr : s.bs r = .buf e n0 ys) (dst : Option Nat) {v : AV} {val : Value} (hv : RA s.bs w E v val) :
    Sim G.T X (s.app dst ⟨v, [(r, .buf e n0 ys)], s.nx⟩) (a.put dst val) w E := by
  have h := hs.pure dst hv
  have e1 : s.app dst ⟨v, [(r, .buf e n0 ys)], s.nx⟩ = s.app dst ⟨v, [], s.nx⟩ := by
    simp only [St.app, updL]
    congr 1
    funext q
    by_cases hq : q = r
    · subst hq; rw [upd_same, hr]
    · rw [upd_ne _ _ hq]
  rw [e1]; exact h

include ht
theorem zeroEs_sound (hs : Sim G.T X s a w E) {e : Nat} {z : List Value} (hok : okT G e = true) (h : zeroEs G e = some z) : (G.T e).zero.cells.toList = z ∧ (∀ u ∈ z, u.oneCell' = true) ∧ z.length = (G.T e).size := by
  have hne := okT_ne ht hok
  have hA := zeroCs_ok (w := w) (E := E) (bs := s.bs) ht (t := e) hne
  have h0 : (G.T e).zero.cells.toList = z ∧ ∀ u ∈ z, u.oneCell' = true := by
    unfold zeroEs at h
    split at h
    · rename_i y hy
      have : zeroCs G e = y.cells := by unfold zeroCs; rw [hy]
      rw [this] at hA
      have h1 := valsOf_sound _ _ _ hA h
      exact ⟨h1, fun u hu => by rw [← h1] at hu; exact hA.all_right (p := fun v => v.oneCell' = true) (fun _ _ h => h.2) u hu⟩
    · cases h
  exact ⟨h0.1, h0.2, by rw [← h0.1]; exact (ht e hne).2.2.2.1⟩

theorem copyX_sound (hs : Sim G.T X s a w E) {t t2 ty e r n0 lo n : Nat} {ys zs : List (List Value)} {v y : Value} (hk : (G.T t).k = .slice e) (hok : okT G e = true) (hr : s.bs r = .buf e n0 ys) (hw : RWin ys (E.sv r).ownBlock lo n v)
    (hy : Reads0 w (G.T e).size zs y) (hone : oneL (zs.take n)) (dst : Option Nat) :
    ∃ w', (Builtin.copy_ #[t, t2] ty #[v, y]).run P w = .ok (.int .i64 (min zs.length n : Nat)) w' ∧
      Sim G.T X (s.app dst ⟨.int (min zs.length n : Nat), [(r, .buf e n0 (ys.take lo ++ zs.take n ++ ys.drop (lo + min zs.length n)))], s.nx⟩) (a.put dst (.int .i64 (min zs.length n : Nat))) w' E := by
  obtain ⟨h1, h2, h3⟩ := buf_len hs hr
  obtain ⟨i, hi, his, hib, hiz⟩ := ht.info2 (okT_ne ht hok)
  have hu := ht.slice hk
  obtain ⟨ad, cap, rfl, g1, g2, g3⟩ := hy
  have hlt : (zs.take n).length = min zs.length n := by rw [List.length_take, Nat.min_comm]
  by_cases h0 : min zs.length n = 0
  · have hz : zs.take n = [] := List.eq_nil_of_length_eq_zero (by omega)
    rw [hz, h0]
    have e0 : ys.take lo ++ [] ++ ys.drop (lo + 0) = ys := by simp
    rw [e0]
    refine ⟨w, ?_, same_step hs hr dst (RA_val_mk _ rfl)⟩
    obtain ⟨q1, ad', q2, q3⟩ := id hw
    rw [q2]
    have hm : zs.length.min n = 0 := h0
    cases ad <;> cases ad' <;> simp [Builtin.copy_, run_underlying hu, sizeOf, typeInfo, hi, Builtin.lenOf, Builtin.firstCells, loadCells, loadCellsFrom, storeCells, hm, goInt]
  · have hn : 0 < n := by omega
    obtain ⟨g, cur, c1, rfl, c3, c4, c5⟩ := win_at hs hr hw hn
    cases ad with
    | none =>
      have := g1 rfl
      subst this
      simp at h0
    | some d =>
      have hzt : ∀ es ∈ zs.take n, es.length = (G.T e).size := fun es hes => g2 es (List.mem_of_mem_take hes)
      have hlz : (zs.take n).flatten.length = (zs.length.min n) * i.size := by
        rw [his, flatten_len _ _ hzt, hlt]
      have hnews : ∀ j u, (zs.take n).flatten[j]? = some u → w.cell? (d.add j) = some u := fun j u hj => by
        refine g3 d rfl j u ?_
        rw [flatten_take' _ _ _ g2, List.getElem?_take] at hj
        split at hj
        · exact hj
        · cases hj
      have h1z : ∀ u ∈ (zs.take n).flatten, u.oneCell' = true := fun u hu => by
        obtain ⟨es, hes, hue⟩ := List.mem_flatten.1 hu
        exact hone es hes u hue
      have hcs : cur.size = ys.length * (G.T e).size := by rw [← Array.length_toList, c4]; exact flatten_len _ _ h1
      have hfit : lo * (G.T e).size + (zs.take n).flatten.length ≤ cur.size := by
        rw [flatten_len _ _ hzt, hlt, hcs, ← Nat.add_mul]
        exact Nat.mul_le_mul_right _ (by omega)
      have hf := run_firstCells_some (P := P) w i.size (zs.length.min n) d zs.length cap (zs.take n).flatten hlz hnews
      have hst := run_storeCells_at P g (lo * (G.T e).size) e (zs.take n).flatten 0 cur w c3 (by simpa using hfit) h1z
      simp only [Nat.add_zero] at hst
      have hms := mid_step hs (lo := lo) (zs := zs.take n) hr c1 c3 c4 hzt (by rw [hlt]; omega) dst s.nx (v := .int (min zs.length n : Nat)) (val := .int .i64 (min zs.length n : Nat)) (RA_val_mk _ rfl)
      rw [hlt] at hms
      refine ⟨_, ?_, hms⟩
      simp [Builtin.copy_, run_underlying hu, sizeOf, typeInfo, hi, Builtin.lenOf, hf, hst, goInt]

theorem clearX_sound (hs : Sim G.T X s a w E) {t ty e r n0 lo n : Nat} {ys : List (List Value)} {z : List Value} {v : Value} (hk : (G.T t).k = .slice e) (hok : okT G e = true) (hr : s.bs r = .buf e n0 ys) (hw : RWin ys (E.sv r).ownBlock lo n v)
    (hz : zeroEs G e = some z) (dst : Option Nat) :
    ∃ w', (Builtin.clear_ #[t] ty #[v]).run P w = .ok (.tuple #[]) w' ∧
      Sim G.T X (s.app dst ⟨.tup [], [(r, .buf e n0 (ys.take lo ++ List.replicate n z ++ ys.drop (lo + n)))], s.nx⟩) (a.put dst (.tuple #[])) w' E := by
  obtain ⟨h1, h2, h3⟩ := buf_len hs hr
  obtain ⟨i, hi, his, hib, hiz⟩ := ht.info2 (okT_ne ht hok)
  obtain ⟨z1, z2, z3⟩ := zeroEs_sound ht hs hok hz
  have hu := ht.slice hk
  by_cases h0 : n = 0
  · subst h0
    have e0 : ys.take lo ++ List.replicate 0 z ++ ys.drop (lo + 0) = ys := by simp
    rw [e0]
    refine ⟨w, ?_, same_step hs hr dst ⟨#[], rfl, trivial⟩⟩
    obtain ⟨q1, ad', q2, q3⟩ := id hw
    rw [q2]
    cases ad' <;> simp [Builtin.clear_, run_underlying hu]
  · obtain ⟨g, cur, c1, rfl, c3, c4, c5⟩ := win_at hs hr hw (by omega)
    have hzt : ∀ es ∈ List.replicate n z, es.length = (G.T e).size := fun es hes => by rw [List.eq_of_mem_replicate hes]; exact z3
    have hzs : 0 < (G.T e).zero.cells.size := by
      have : (G.T e).zero.cells.toList.length = (G.T e).size := by rw [z1]; exact z3
      simp at this; omega
    have hzf : (Builtin.zeroCells (G.T e).zero.cells n).toList = (List.replicate n z).flatten := by rw [zeroCells_flat _ hzs, z1]
    have h1z : ∀ u ∈ (List.replicate n z).flatten, u.oneCell' = true := fun u hu => by
      obtain ⟨es, hes, hue⟩ := List.mem_flatten.1 hu
      rw [List.eq_of_mem_replicate hes] at hue; exact z2 u hue
    have hcs : cur.size = ys.length * (G.T e).size := by rw [← Array.length_toList, c4]; exact flatten_len _ _ h1
    have hfit : lo * (G.T e).size + (List.replicate n z).flatten.length ≤ cur.size := by
      rw [flatten_len _ _ hzt, List.length_replicate, hcs, ← Nat.add_mul]
      exact Nat.mul_le_mul_right _ c5
    have hst := run_storeCells_at P g (lo * (G.T e).size) e (List.replicate n z).flatten 0 cur w c3 (by simpa using hfit) h1z
    simp only [Nat.add_zero] at hst
    have hms := mid_step hs (lo := lo) (zs := List.replicate n z) hr c1 c3 c4 hzt (by simpa using c5) dst s.nx (v := .tup []) (val := .tuple #[]) ⟨#[], rfl, trivial⟩
    rw [List.length_replicate] at hms
    refine ⟨_, ?_, hms⟩
    cases n with
    | zero => exact absurd rfl h0
    | succ n => simp [Builtin.clear_, run_underlying hu, ht.zero (okT_ne ht hok), hzf, hst]

theorem overlaps_run (hs : Sim G.T X s a w E) {t e rt r n0 lo n : Nat} {ys xs : List (List Value)} {x v : Value} (hk : (G.T t).k = .slice e) (hok : okT G e = true) (hr : s.bs r = .buf e n0 ys) (hw : RWin ys (E.sv r).ownBlock lo n v)
    (hxl : ∀ es ∈ xs, es.length = sizeT G e) {ex : Bool} (hx : RSl w E.F xs ex x) : (Extern.SlicesOverlaps.overlaps #[t, t] #[rt] #[x, v]).run P w = .ok (.bool false) w := by
  obtain ⟨h1, h2, h3⟩ := buf_len hs hr
  have hu := ht.slice hk
  have hsz : ∀ w, (Go.sizeOf e).run P w = .ok (sizeT G e) w := fun w => ht.sizeOf (okT_ne ht hok) w
  obtain ⟨ad, cap, rfl, _, _, _, k, q1, q2⟩ := hx
  obtain ⟨_, ad', q3, _⟩ := id hw
  have begin_ : ∀ (c d : Option Addr) (la ca lb cb : Nat), (la = 0 ∨ lb = 0 ∨ sizeT G e = 0) ∨ c = none ∨ d = none → (Extern.SlicesOverlaps.overlaps #[t, t] #[rt] #[.slice c la ca, .slice d lb cb]).run P w = .ok (.bool false) w := by
    intro c d la ca lb cb h
    show Sem.run P (underlying t >>= _) w = _
    rw [Sem.run_bind, run_underlying hu, Result.andThen_ok]
    show Sem.run P (Go.sizeOf e >>= _) w = _
    rw [Sem.run_bind, hsz, Result.andThen_ok]
    cases c with
    | none => rfl
    | some c =>
      cases d with
      | none => rfl
      | some d =>
        rcases h with h | h | h
        · simp only [h]; rfl
        · cases h
        · cases h
  by_cases h0 : xs.length = 0 ∨ n = 0 ∨ sizeT G e = 0
  · rw [q3]; exact begin_ _ _ _ _ _ _ (.inl h0)
  · have hxn : xs ≠ [] := fun e => h0 (.inl (by rw [e]; rfl))
    obtain ⟨b, o, rfl, hF, hc⟩ := q2 hxn
    obtain ⟨g, cur, c1, rfl, c3, c4, c5⟩ := win_at hs hr hw (by omega)
    have hmr : mblk s.bs E r = some g := by simp [mblk, hr, c1]
    have hne : b ≠ g := fun e => (hs.bl.mt r g hmr).1 (e ▸ hF)
    obtain ⟨y, xs', rfl⟩ : ∃ y xs', xs = y :: xs' := by cases xs with | nil => exact absurd rfl hxn | cons y xs' => exact ⟨y, xs', rfl⟩
    have hyk : 0 < y.length := by rw [hxl y (by simp)]; omega
    obtain ⟨u, hu0⟩ : ∃ u, y[0]? = some u := ⟨y[0], by simp⟩
    have hcell := (hc 0 y rfl 0 u hu0).2
    simp only [Nat.zero_mul, Nat.add_zero] at hcell
    obtain ⟨cs, tb, fr, hb, hcs⟩ : ∃ cs tb fr, w.heap[b]? = some (.cells cs tb fr) ∧ 0 < cs.size := by
      unfold World.cell? at hcell
      simp only at hcell
      split at hcell
      · rename_i cs tb fr hb
        refine ⟨cs, tb, fr, hb, ?_⟩
        simp at hcell
        have := (Array.getElem?_eq_some_iff.1 hcell).1
        omega
      · cases hcell
    have hsa : w.shape? b = some (tb, cs.size) := by simp [World.shape?, hb]
    have hsb : w.shape? g = some (e, cur.size) := by simp [World.shape?, c3]
    have hfb : ∀ o, w.frozen? ⟨g, o, none⟩ = false := fun o => by simp [World.frozen?, c3]
    have hnb : (b != g) = true := by simpa using hne
    have hnb' : (b == g) = false := by simpa using hne
    obtain ⟨m, hm⟩ : ∃ m, cs.size = m + 1 := ⟨cs.size - 1, by omega⟩
    rw [hm] at hsa
    show Sem.run P (underlying t >>= _) w = _
    rw [Sem.run_bind, run_underlying hu, Result.andThen_ok]
    show Sem.run P (Go.sizeOf e >>= _) w = _
    rw [Sem.run_bind, hsz, Result.andThen_ok]
    simp only [h0]
    simp [hnb, hnb', frozen, noView, viewAt, mayBeOne, stringish, shape, Sem.run, hsa, hsb, hfb]
    try (split <;> simp [Sem.run, hsa, hsb, hfb])
end
end Go.Fw
/- Rows that are cut off, parts that are fixed, rows of cells, walks over texts. -/
namespace Go.Fw
open Go Go.RowKit

section
variable {P : Program} {G : Cfg} (ht : TOK P G.T) {X : Ctx2} {s : St} {a : Act} {w : World} {E : Env} {Qc : Exit → Act → World → Prop} {K : Eff → Prop}

/-- A row's value, at a length. -/
def svAt (v : Value) (n : Nat) : Value := match v with | .slice b _ c => .slice b n c | v => v
theorem flatten_take {α : Type} (k : Nat) : ∀ (ys : List (List α)) (n : Nat), (∀ es ∈ ys, es.length = k) → ys.flatten.take (n * k) = (ys.take n).flatten
  | [], n, _ => by simp
  | y :: ys, 0, _ => by simp
  | y :: ys, n + 1, h => by
    have h1 : y.length = k := h y (by simp)
    have e : (n + 1) * k = y.length + n * k := by rw [h1, Nat.add_mul, Nat.one_mul, Nat.add_comm]
    simp only [List.flatten_cons, List.take_succ_cons, e]
    rw [List.take_length_add_append, flatten_take k ys n fun es hes => h es (by simp [hes])]

/-- A row that is handed back, as the world has it. -/
theorem row_out {s : St} {w : World} {E E' : Env} {p : Nat × Nat} {j : Nat} (hB : Blocks G.T s.bs w E) {e : Nat} {xs : List (List Value)} (h : rowAt s p = some (e, xs)) (hl : xs.length = p.2) (h47 : p.2 ≤ 140737488355328) (hone : match s.bs p.1 with | .buf _ _ _ => oneL xs | _ => True) (hv : E'.sv j = svAt (E.sv p.1) p.2) (bs : Nat → Blk) :
    RB G.T bs w E' j (.vec e xs false) ∧ (E'.sv j).ownBlock = (E.sv p.1).ownBlock ∧ mblk s.bs E p.1 = (E.sv p.1).ownBlock ∧
      (∀ y, RC s.bs w E (.ref p.1 p.2) y → (∀ e' n0 ys, s.bs p.1 = .buf e' n0 ys → p.2 = n0) → y = E'.sv j) ∧ (∀ y e' n0 ys, s.bs p.1 = .buf e' n0 ys → RC s.bs w E (.win p.1 0 p.2) y → y = E'.sv j) := by
  have hb := hB.blk p.1
  unfold rowAt at h
  split at h
  · rename_i e0 xs0 hr
    cases h
    rw [hr] at hb
    obtain ⟨h1, h2, h3, ho, h5⟩ := hb
    have hsv : svAt (E.sv p.1) p.2 = E.sv p.1 := by
      rcases ho.2 with ⟨q1, q2⟩ | ⟨g, cap, cur, q1, _⟩
      · rw [q1]; simp only [svAt]; rw [← hl, q2]
      · rw [q1]; simp only [svAt]; rw [← hl]
    rw [hsv] at hv
    refine ⟨?_, by rw [hv], by simp [mblk, hr], fun y hy _ => ?_, fun y e' n0 ys he => by rw [hr] at he; cases he⟩
    · unfold RB
      rw [hv]
      exact ⟨h1, h2, h3, ho, fun h => by cases h⟩
    · simp only [RC, hr] at hy
      rw [hv]; exact hy.2 hl
  · rename_i e0 n0 ys hr
    cases h
    rw [hr] at hb
    obtain ⟨h1, h2, h3, h4, h5⟩ := hb
    have hln : p.2 ≤ ys.length := by rw [← hl]; simp; omega
    have hwin : ∀ y, RWin ys (E.sv p.1).ownBlock 0 p.2 y → y = E'.sv j := by
      rintro y ⟨g1, a, g2, g3⟩
      obtain ⟨k, _, g4⟩ := g3 (.inr rfl)
      rw [g2, hv]
      rcases h5 with ⟨q1, q2⟩ | ⟨g, cur, q1, q2, q3⟩
      · subst q2
        rw [q1]
        simp only [svAt, g4, q1, Value.ownBlock, Option.map_none]
        simp
      · simp only [svAt, g4, q1, Value.ownBlock, Option.map_some]
        simp
    refine ⟨?_, ?_, by simp [mblk, hr], fun y hy hn0 => ?_, fun y e' n0' ys' he hy => ?_⟩
    · unfold RB
      rw [hv]
      refine ⟨fun es hes => ⟨h1 es (List.mem_of_mem_take hes), by rw [hr] at hone; exact hone es hes⟩, h2, by rw [hl]; exact h47, ⟨?_, ?_⟩, fun h => by cases h⟩
      · exact flatten_len _ _ fun es hes => h1 es (List.mem_of_mem_take hes)
      · rcases h5 with ⟨q1, q2⟩ | ⟨g, cur, q1, q2, q3⟩
        · subst q2
          left
          rw [q1]
          simp only [svAt, List.take_nil, List.length_nil] at hl ⊢
          rw [← hl]; simp
        · right
          refine ⟨g, ys.length, cur, by rw [q1]; simp only [svAt]; rw [hl], Nat.zero_le _, q2, by rw [hl]; exact hln, Nat.le_trans h3 (by decide), ?_, ?_⟩
          · rw [← Array.length_toList, q3]; exact flatten_len _ _ fun es hes => h1 es hes
          · rw [q3, hl]; exact flatten_take _ _ _ fun es hes => h1 es hes
    · rw [hv]
      rcases h5 with ⟨q1, q2⟩ | ⟨g, cur, q1, q2, q3⟩ <;> rw [q1] <;> rfl
    · simp only [RC, hr] at hy
      exact hwin y (hy.2 (hn0 _ _ _ hr))
    · simp only [RC, hr] at hy
      exact hwin y hy
  · cases h


/-- A row is sealed, under a new name. -/
theorem seal_step (hs : Sim G.T X s a w E) {r n e : Nat} {xs : List (List Value)} (hrow : rowAt s (r, n) = some (e, xs)) (hl : xs.length = n) (h47 : n ≤ 140737488355328)
    (hone : match s.bs r with | .buf _ _ _ => oneL xs | _ => True) (hnx : s.bs s.nx = .none) (hlo : s.lo ≤ r) (hne : r ≠ s.nx) :
    Sim G.T X { s with bs := updL s.bs [(r, .dead), (s.nx, .vec e xs false)] } a w ⟨E.σ, upd E.sv s.nx (svAt (E.sv r) n), E.F⟩ := by
  have hb1 : updL s.bs [(r, .dead), (s.nx, .vec e xs false)] s.nx = .vec e xs false := upd_same _ _ _
  have hb2 : updL s.bs [(r, .dead), (s.nx, .vec e xs false)] r = .dead := by
    show upd (upd s.bs r .dead) s.nx (.vec e xs false) r = .dead
    rw [upd_ne _ _ hne, upd_same]
  have hb3 : ∀ q, q ≠ s.nx → q ≠ r → updL s.bs [(r, .dead), (s.nx, .vec e xs false)] q = s.bs q := fun q h1 h2 => by
    show upd (upd s.bs r .dead) s.nx (.vec e xs false) q = s.bs q
    rw [upd_ne _ _ h1, upd_ne _ _ h2]
  have hf : FExt w E.F w E.F := FExt.refl _ _
  have hb : BExt s.bs E (updL s.bs [(r, .dead), (s.nx, .vec e xs false)]) ⟨E.σ, upd E.sv s.nx (svAt (E.sv r) n), E.F⟩ := by
    intro q hq
    have h1 : q ≠ s.nx := fun h => hq (h ▸ hnx)
    by_cases h2 : q = r
    · subst h2; rw [hb2]; trivial
    · exact BExtAt.same (hb3 q h1 h2) rfl (upd_ne _ _ h1) hq
  obtain ⟨o1, o2, o3, _⟩ := row_out (p := (r, n)) (j := s.nx) (E' := ⟨E.σ, upd E.sv s.nx (svAt (E.sv r) n), E.F⟩) hs.bl hrow hl h47 hone (upd_same _ _ _) (updL s.bs [(r, .dead), (s.nx, .vec e xs false)])
  have hm : ∀ q b, mblk (updL s.bs [(r, .dead), (s.nx, .vec e xs false)]) ⟨E.σ, upd E.sv s.nx (svAt (E.sv r) n), E.F⟩ q = some b → (q = s.nx ∧ mblk s.bs E r = some b) ∨ (q ≠ s.nx ∧ q ≠ r ∧ mblk s.bs E q = some b) := by
    intro q b h
    by_cases h1 : q = s.nx
    · subst h1
      refine .inl ⟨rfl, ?_⟩
      simp only [mblk, hb1] at h
      rw [o2] at h
      exact o3.trans h
    · by_cases h2 : q = r
      · subst h2; simp [mblk, hb2] at h
      · refine .inr ⟨h1, h2, ?_⟩
        unfold mblk at h ⊢
        rw [hb3 q h1 h2] at h
        simp only [upd_ne _ _ h1] at h
        exact h
  exact
    { defers := hs.defers, size := hs.size, tm := fun d => RA.ext (E' := ⟨E.σ, upd E.sv s.nx (svAt (E.sv r) n), E.F⟩) hf hb (hs.tm d)
      bl :=
        { blk := fun q => by
            show RB G.T (updL s.bs [(r, .dead), (s.nx, .vec e xs false)]) w _ q (updL s.bs [(r, .dead), (s.nx, .vec e xs false)] q)
            by_cases h1 : q = s.nx
            · subst h1; rw [hb1]; exact o1
            · by_cases h2 : q = r
              · subst h2; rw [hb2]; trivial
              · rw [hb3 q h1 h2]
                exact (hs.bl.blk q).keep hf hb rfl (upd_ne _ _ h1) fun _ _ => rfl
          inj := fun q q' b h h' => by
            rcases hm q b h with ⟨e1, h1⟩ | ⟨e1, e2, h1⟩ <;> rcases hm q' b h' with ⟨e3, h3⟩ | ⟨e3, e4, h3⟩
            · rw [e1, e3]
            · exact absurd (hs.bl.inj r q' b h1 h3).symm e4
            · exact absurd (hs.bl.inj q r b h1 h3) e2
            · exact hs.bl.inj q q' b h1 h3
          mt := fun q b h => by
            rcases hm q b h with ⟨e1, h1⟩ | ⟨e1, e2, h1⟩
            · exact hs.bl.mt r b h1
            · exact hs.bl.mt q b h1 }
      own := fun q b h => by
        rcases hm q b h with ⟨e1, h1⟩ | ⟨e1, e2, h1⟩
        · rcases hs.own r b h1 with h2 | h2
          · have := h2.1; omega
          · exact .inr h2
        · exact hs.own q b h1
      fr := hs.fr, hist := hs.hist.trans hb, old := hs.old, mo := hs.mo }

theorem upd_twice {α : Type} (f : Nat → α) (r : Nat) (x y : α) : upd (upd f r x) r y = upd f r y := by
  funext q
  by_cases h : q = r
  · subst h; rw [upd_same, upd_same]
  · rw [upd_ne _ _ h, upd_ne _ _ h, upd_ne _ _ h]

include ht
/-- A part of what may only be read. -/
theorem sliceP_run (hs : Sim G.T X s a w E) {t e : Nat} (hk : (G.T t).k = .slice e) (hok : okT G e = true) {lo hi mx : Option Operand} {l h : Option Int} (hlo : optI s lo = some l) (hhi : optI s hi = some h) (hmx : optI s mx = some none)
    {F : Nat → Prop} {xs : List (List Value)} {n : Nat} {y : Value} (hsl : RSl w F xs false y) (hsz : ∀ es ∈ xs, es.length = (G.T e).size) (hn : xs.length = n)
    (hc : 0 ≤ l.getD 0 ∧ l.getD 0 ≤ h.getD n ∧ h.getD n ≤ xs.length) :
    ∃ val, (Instr.sliceAt t y (lo.map a.eval) (hi.map a.eval) (mx.map a.eval)).run P w = .ok val w ∧ val.oneCell' = true ∧ RSl w F ((xs.take (h.getD n).toNat).drop (l.getD 0).toNat) false val := by
  obtain ⟨ad, cap, rfl, hcap, _⟩ := id hsl
  obtain ⟨c1, c2, c3⟩ := hc
  have hu := ht.slice hk
  have hsize : (sizeOf e).run P w = .ok (sizeT G e) w := ht.sizeOf (okT_ne ht hok) w
  have ol : (lo.map a.eval = none ∧ l.getD 0 = 0) ∨ ∃ k, lo.map a.eval = some (.int k (l.getD 0)) := (optI_sound hs hlo 0).imp (fun h => ⟨h.1, h.2.2⟩) fun ⟨k, h1, _⟩ => ⟨k, h1⟩
  have oh : (hi.map a.eval = none ∧ h.getD (n : Int) = xs.length) ∨ ∃ k, hi.map a.eval = some (.int k (h.getD n)) := (optI_sound hs hhi (n : Int)).imp (fun h => ⟨h.1, by rw [h.2.2, hn]⟩) fun ⟨k, h1, _⟩ => ⟨k, h1⟩
  have hm0 : mx.map a.eval = none := by
    rcases optI_sound hs hmx 0 with ⟨h1, _⟩ | ⟨k, h1, h2⟩
    · exact h1
    · cases h2
  have hb := boundsC_run (P := P) (w := w) (len := xs.length) (cap := cap) hcap ol oh c1 c2 (by omega)
  have hp := hsl.part (k := (G.T e).size) hsz (l := (l.getD 0).toNat) (hh := (h.getD n).toNat) (m := cap) (by omega) (by omega) (by omega) (ex' := false) (by simp)
  refine ⟨_, ?_, rfl, hp⟩
  rw [hm0]
  simp only [Instr.sliceAt, Sem.run_bind, run_underlying hu, Result.andThen_ok, Instr.slice, hb, hsize, Sem.run_pure]
  rfl

/-- A row of one's own is cut off. -/
theorem trunc_step (hs : Sim G.T X s a w E) {t e : Nat} (hk : (G.T t).k = .slice e) (hok : okT G e = true) {lo hi mx : Option Operand} {l h : Option Int} (hlo : optI s lo = some l) (hhi : optI s hi = some h) (hmx : optI s mx = some none)
    {r n : Nat} {xs : List (List Value)} (hb : s.bs r = .vec e xs false) (hn : xs.length = n) (hnx : s.bs s.nx = .none) (hlor : s.lo ≤ r) (hne : r ≠ s.nx) (hc : l.getD 0 = 0 ∧ 0 ≤ h.getD n ∧ h.getD n ≤ n) (dst : Option Nat) :
    ∃ val E', (Instr.sliceAt t (E.sv r) (lo.map a.eval) (hi.map a.eval) (mx.map a.eval)).run P w = .ok val w ∧
      Sim G.T X (s.app dst ⟨.one (.ref s.nx (h.getD n).toNat), [(r, .dead), (s.nx, .vec e (xs.take (h.getD n).toNat) false)], s.nx + 1⟩) (a.put dst val) w E' := by
  obtain ⟨c1, c2, c3⟩ := hc
  obtain ⟨sp, g1, g2, hs2, hw⟩ := open_step ht hs hb hn
  have hb2 : ({ s with bs := updL s.bs [(r, .buf e n (xs ++ sp))] } : St).bs r = .buf e n (xs ++ sp) := upd_same _ _ _
  obtain ⟨h1, h2, _⟩ := buf_len hs2 hb2
  have hB := hs.bl.blk r
  rw [hb] at hB
  obtain ⟨q1, q2, q3, _⟩ := hB
  obtain ⟨val, v1, v2, v3⟩ := sliceX_run (s := { s with bs := updL s.bs [(r, .buf e n (xs ++ sp))] }) ht hs2 hk hok hlo hhi hmx rfl h1 (y := E.sv r) hw
    ⟨by simp; omega, by omega, by omega, by simp only [mxOK]; simp; omega⟩
  have v3' := v3 rfl
  have htk : (xs ++ sp).take (h.getD n).toNat = xs.take (h.getD n).toNat := List.take_append_of_le_length (by omega)
  have hrow : rowAt ({ s with bs := updL s.bs [(r, .buf e n (xs ++ sp))] } : St) (r, (h.getD n).toNat) = some (e, xs.take (h.getD n).toNat) := by
    show (match ({ s with bs := updL s.bs [(r, .buf e n (xs ++ sp))] } : St).bs r with | .vec e xs false => some (e, xs) | .buf e _ ys => some (e, ys.take (h.getD n).toNat) | _ => none) = _
    rw [hb2, ← htk]
  have hl : (xs.take (h.getD n).toNat).length = (h.getD n).toNat := by rw [List.length_take]; omega
  have hone : match ({ s with bs := updL s.bs [(r, .buf e n (xs ++ sp))] } : St).bs r with | .buf _ _ _ => oneL (xs.take (h.getD n).toNat) | _ => True := by
    rw [hb2]
    exact fun es hes => (q1 es (List.mem_of_mem_take hes)).2
  have hnx2 : ({ s with bs := updL s.bs [(r, .buf e n (xs ++ sp))] } : St).bs s.nx = .none := (upd_ne _ _ (Ne.symm hne)).trans hnx
  have hs3 := seal_step (s := { s with bs := updL s.bs [(r, .buf e n (xs ++ sp))] }) hs2 hrow hl (by omega) hone hnx2 hlor hne
  obtain ⟨o1, o2, o3, o4, o5⟩ := row_out (p := (r, (h.getD n).toNat)) (j := s.nx) (E' := ⟨E.σ, upd E.sv s.nx (svAt (E.sv r) (h.getD n).toNat), E.F⟩) hs2.bl hrow hl (by omega) hone (upd_same _ _ _) (updL s.bs [])
  have hb2' : updL s.bs [(r, .buf e n (xs ++ sp))] r = .buf e n (xs ++ sp) := hb2
  have hval := o5 val e n (xs ++ sp) hb2 (by
    simp only [RC, hb2']
    have e1 : (h.getD (n : Int) - l.getD 0).toNat = (h.getD n).toNat := by rw [c1]; simp
    have e2 : 0 + (l.getD 0).toNat = 0 := by rw [c1]; rfl
    rw [e1, e2] at v3'
    exact v3')
  refine ⟨val, ⟨E.σ, upd E.sv s.nx (svAt (E.sv r) (h.getD n).toNat), E.F⟩, v1, sim_app_nil ?_⟩
  have e3 : (updL (updL s.bs [(r, .buf e n (xs ++ sp))]) [(r, .dead), (s.nx, .vec e (xs.take (h.getD n).toNat) false)]) = updL s.bs [(r, .dead), (s.nx, .vec e (xs.take (h.getD n).toNat) false)] := by
    show upd (upd (upd s.bs r _) r _) s.nx _ = upd (upd s.bs r _) s.nx _
    rw [upd_twice]
  have hs4 : Sim G.T X { s with bs := updL s.bs [(r, .dead), (s.nx, .vec e (xs.take (h.getD n).toNat) false)] } a w ⟨E.σ, upd E.sv s.nx (svAt (E.sv r) (h.getD n).toNat), E.F⟩ := by
    rw [← e3]; exact hs3
  refine hs4.step dst (nx := s.nx + 1) (bl := []) (FExt.refl _ _) (BExt.refl _ _) ?_ hs4.bl hs4.own hs4.fr
  · refine ⟨?_, v2⟩
    have hb4 : updL (updL s.bs [(r, .dead), (s.nx, .vec e (xs.take (h.getD n).toNat) false)]) [] s.nx = .vec e (xs.take (h.getD n).toNat) false := upd_same _ _ _
    simp only [RC, hb4]
    exact ⟨by rw [hl]; exact Nat.le_refl _, fun _ => hval⟩
end
end Go.Fw
