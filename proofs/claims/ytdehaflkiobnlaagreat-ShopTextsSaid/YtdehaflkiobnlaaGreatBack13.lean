/- A part of the proof of Rows.ShopBackSaid: what ShopBack answers, whatever the arguments; it stands under no condition. -/
import Derived.Test.YtdehaflkiobnlaaGreatBack07
import Derived.RangeFuncIn
import Derived.RangeFuncRecord
import Derived.RangeFuncLeaves
set_option linter.unusedVariables false
set_option linter.unusedSimpArgs false
set_option linter.unusedSectionVars false
set_option linter.deprecated false
/- A range over a function that yields nothing runs well. -/
namespace Go.Fw
open Go Go.RowKit

section
variable {P : Program} {G : Cfg} (ht : TOK P G.T) {X : Ctx2}

/-- What is handed back, as another beginning sees it. -/
theorem ret_sound' (ht : TOK P G.T) {fn : Func} {s : St} {a : Act} {w : World} {E : Env} {r : AV} {Y : Ctx} (hs : Sim G.T X s a w E) (h : retQ G fn r s) (hY : Frame Y w E.F) (hown : ∀ r b, mblk s.bs E r = some b → Y.w.heap.size ≤ b) :
    ∃ v, (results fn a.tmps).run P w = .ok v w ∧ ∃ E', Frame Y w E'.F ∧ RA (fun _ => .none) w E' r v ∧ ∀ b, E'.F b → E.F b ∨ ∃ q, mblk s.bs E q = some b := by
  obtain ⟨m, vs, h1, h2, h3⟩ := resK_sound ht hs h
  have hA : A2 (RA s.bs w E) (m.map AV.w) vs := A2.map_left (f := AV.w) h2
  obtain ⟨l', rs, ⟨m', rfl, hr⟩, hrs, hq⟩ := argsK_sound hs.bl hA (retLK_args h1)
  have hrow : ∀ r ∈ rs, ∀ b, (E.sv r).ownBlock = some b → b < w.heap.size ∧ (E.F b ∨ mblk s.bs E r = some b) := by
    intro r hr b hb
    obtain ⟨e, xs, fz, he⟩ := hrs r hr
    have hB := hs.bl.blk r
    rw [he] at hB
    refine ⟨(hB.2.2.2.1.lt b hb).2, ?_⟩
    cases fz with
    | true => exact .inl (hB.2.2.2.2 rfl b hb)
    | false => exact .inr (by simp [mblk, he, hb])
  refine ⟨if h : vs.toArray.size = 1 then vs.toArray[0] else .tuple vs.toArray, results_run h3, ⟨E.σ, E.sv, fun b => E.F b ∨ ∃ r ∈ rs, (E.sv r).ownBlock = some b⟩, ?_, ?_, ?_⟩
  · exact
      { flt := fun b hb => by
          rcases hb with hb | ⟨r, hr, hb⟩
          · exact hY.flt b hb
          · obtain ⟨g1, g2⟩ := hrow r hr b hb
            refine ⟨g1, ?_⟩
            rcases g2 with g2 | g2
            · exact (hY.flt b g2).2
            · exact .inr (hown r b g2)
        fge := fun b hb => .inl (hY.fge b hb), os := hY.os, tape := hY.tape, output := hY.output, grow := hY.grow, keep := hY.keep }
  · have hq' := hq (fun b => E.F b ∨ ∃ r ∈ rs, (E.sv r).ownBlock = some b) (fun b hb => .inl hb) (fun r hr b hb => .inr ⟨r, hr, hb⟩)
    subst hr
    cases m' with
    | nil =>
      cases vs with
      | nil => exact ⟨_, rfl, trivial⟩
      | cons v vs => exact hq'.elim
    | cons x m' =>
      cases vs with
      | nil => exact hq'.elim
      | cons v vs =>
        cases m' with
        | nil =>
          cases vs with
          | nil => exact hq'.1
          | cons v' vs => exact hq'.2.elim
        | cons x' m' =>
          cases vs with
          | nil => exact hq'.2.elim
          | cons v' vs =>
            refine ⟨_, by simp; rfl, ?_⟩
            have go : ∀ {l : List W1} {us : List Value} {bs : Nat → Blk} {E : Env}, A2 (RA bs w E) (l.map AV.w) us → A2 (RW bs w E) l us := by
              intro l
              induction l with
              | nil => intro us _ _ h; cases us <;> exact h
              | cons x l ih => intro us _ _ h; cases us with
                | nil => exact h.elim
                | cons u us => exact ⟨h.1, ih h.2⟩
            exact go hq'
  · rintro b (hb | ⟨r, hr, hb⟩)
    · exact .inl hb
    · exact (hrow r hr b hb).2.imp_right fun h => ⟨r, h⟩

/-- On, if nothing jumps. -/
def nK (N : St → Prop) : Ex → St → Prop := fun e s => match e with | .normal => N s | _ => False
theorem nK_elim {N : St → Prop} {e : Exit} {a : Act} {w : World} (h : QQ G.T X (nK N) e a w) : e = .normal ∧ ∃ s E, N s ∧ Top s ∧ Sim G.T X s a w E := by
  cases e with
  | normal => obtain ⟨s, E, h1, h2, h3⟩ := h; exact ⟨rfl, s, E, h1, h2, h3⟩
  | ret => obtain ⟨s, E, h1, _⟩ := h; exact h1.elim
  | exit id => obtain ⟨s, E, h1, _⟩ := h; exact h1.elim
  | panic ch => obtain ⟨v, s, F, _, h1, _⟩ := h; exact h1.elim
  | goto l => exact h.elim
  | outgrown => exact h.elim
/-- The function that is ranged over: it ends, and yields nothing (it has no way to). Behind it lies what is put off until the end. -/
structure rf0 (C : CallRel) (g : Operand) (N : Nat → Nat → St → Prop) (s : St) : Prop where
  h : ∃ f pre caps, s.ev g = .w (.one (.fn f pre caps)) ∧ C f (pre.map capAV ++ [.junk] ++ caps.map capAV) [] (.ret (.tup [])) [] ∧ s.bs s.nx = .none ∧ ∀ D, N s.nx D (s.app none ⟨.junk, [(s.nx, .lock D)], s.nx + 1⟩)

theorem range0_sound (ht : TOK P G.T) (hm : P.follows .mixedOrders = true) {C : CallRel} {J : Inl} (hC : ∀ f ar bs out bs', C f ar bs out bs' → Sound P G.T f ar bs out bs') (hJ : SoundJ P G.T J) (hJm : InlMono J J) {f : FuncId} {ar : List AV} {r : AV} {fn : Func}
    {c1 c2 c3 c4 c5 post : Code} {id : Nat} {g : Operand} {ps : Array Tmp} {asg bd : Code}
    (hc1 : noComm c1 = true) (hc2 : noComm c2 = true) (hc3 : noComm c3 = true) (hc4 : noComm c4 = true) (hc5 : noComm c5 = true) (hcp : noComm post = true)
    (hf : P.funcs[f]? = some fn) (hb : fn.body = some (c1.seq (c2.seq (c3.seq (c4.seq ((c5.seq (.block id (.rangeFunc g ps asg bd))).seq post)))))) (hn : (fn.name == "runtime.NumGoroutine") = false)
    (hw : wpC G C J c1 (nK fun s => wpC G C J c2 (nK fun s => wpC G C J c3 (nK fun s => wpC G C J c4 (nK fun s => wpC G C J c5 (nK (rf0 C g fun k D s =>
      wpC G C J post (fun e s => s.bs k = .lock D ∧ bodyQ G fn (.ret r) e (s.app none ⟨.junk, [(k, .dead)], s.nx⟩)) s)) s) s) s) s) (initS ar (max ar.length fn.ntmps))) :
    Sound P G.T f ar [] (.ret r) [] := by
  refine ⟨⟨fn, _, hf, hb, hn⟩, fun w0 E0 vs hA hbl hlt => ?_⟩
  rw [bsF_nil] at hA hbl ⊢
  have hs0 := start_sim (G := G) (k := 0) fn.ntmps 0 hA hbl hlt (fun r h => absurd rfl h)
  have htp0 : Top (initS ar (max ar.length fn.ntmps)) := fun _ _ => rfl
  refine (callsIn_wide (n := 1)).1 (callsIn_of_wp_marks hf hb trivial (wpIn_wide.2 ?_))
  refine wp_seq (wp_mono (code_sound ht hm hC hJ hJm c1 hc1 hw htp0 hs0) ?_)
  intro e a w hq
  obtain ⟨rfl, s, E, hw, htp, hs⟩ := nK_elim hq
  refine wp_seq (wp_mono (code_sound ht hm hC hJ hJm c2 hc2 hw htp hs) ?_)
  intro e a w hq
  obtain ⟨rfl, s, E, hw, htp, hs⟩ := nK_elim hq
  refine wp_seq (wp_mono (code_sound ht hm hC hJ hJm c3 hc3 hw htp hs) ?_)
  intro e a w hq
  obtain ⟨rfl, s, E, hw, htp, hs⟩ := nK_elim hq
  refine wp_seq (wp_mono (code_sound ht hm hC hJ hJm c4 hc4 hw htp hs) ?_)
  intro e a w hq
  obtain ⟨rfl, s, E, hw, htp, hs⟩ := nK_elim hq
  refine wp_seq (wp_seq (wp_mono (code_sound ht hm hC hJ hJm c5 hc5 hw htp hs) ?_))
  intro e a w hq
  obtain ⟨rfl, s, E, ⟨f', pre, caps, hg, hcall, hnx, hw⟩, htp, hs⟩ := nK_elim hq
  refine wp_block ?_
  obtain ⟨⟨fn', cc, h1, h2, h3⟩, hsound⟩ := hC _ _ _ _ _ hcall
  have hv := hs.ev g
  rw [hg] at hv
  obtain ⟨p, q, hfv, hp, hq⟩ := hv.1
  have hFl : ∀ b, E.F b → b < w.heap.size := fun b hb => (hs.fr.flt b hb).1
  refine (wpIn_wide (n := 1)).1 (wpIn_rangeFunc fun fid _ => ?_)
  let rc : Loop := { state := .ready, pending := none, fn := fid, tmps := a.tmps, params := ps, assign := asg, body := bd, defers := w.heap.size }
  let w1 : World := (w.alloc (.deferred (some []))).alloc (.loop rc)
  have z1 : (w.alloc (.deferred (some []))).heap.size = w.heap.size + 1 := size_alloc _ _
  have z2 : w1.heap.size = w.heap.size + 2 := by
    show ((w.alloc (.deferred (some []))).alloc (.loop rc)).heap.size = _
    rw [size_alloc, z1]
  have hold : ∀ b, b < w.heap.size → w1.heap[b]? = w.heap[b]? := fun b hb =>
    (heap_alloc_old _ _ b (by rw [z1]; omega)).trans (heap_alloc_old w _ b hb)
  have hD : w1.heap[w.heap.size]? = some (.deferred (some [])) := (heap_alloc_old _ _ _ (by rw [z1]; omega)).trans (heap_alloc_new w _)
  have hL : w1.heap[w.heap.size + 1]? = some (.loop rc) := by rw [← z1]; exact heap_alloc_new _ _
  have hres : (resolve a.eval (rangeCall g (w.heap.size + 1)) 0).run P w1 = .ok { target := .fn (.func f') q, args := p ++ #[.func (.yield (w.heap.size + 1)) #[] #[]] } w1 := by
    simp [resolve, rangeCall, hfv, Deferred.ofValue]
    rfl
  have hinv : (invoke (.fn (.func f') q) (p ++ #[.func (.yield (w.heap.size + 1)) #[] #[]])).run P w1 = .ok (.enter f' (p ++ #[.func (.yield (w.heap.size + 1)) #[] #[]] ++ q)) w1 := by
    simp only [invoke]
    exact callFunc_run h1 h2 h3 _
  have hf1 : FExt w E.F w1 E.F := ⟨fun _ h => h, fun b hb => hold b (hFl b hb)⟩
  have hA1 : A2 (RA (bsF []) w1 E) (pre.map capAV ++ [.junk] ++ caps.map capAV) (p ++ #[Value.func (.yield (w.heap.size + 1)) #[] #[]] ++ q).toList := by
    simp only [Array.toList_append]
    refine A2.append (A2.append ?_ (l' := [AV.junk]) (m' := [Value.func (.yield (w.heap.size + 1)) #[] #[]]) ⟨RA_junk _ _, trivial⟩) ?_
    · exact caps_sound (F := E.F) rfl (hp.mono fun _ _ h => h.ext hf1)
    · exact caps_sound (F := E.F) rfl (hq.mono fun _ _ h => h.ext hf1)
  refine ⟨w.heap.size + 1, [{ target := .collected w.heap.size, args := #[] }], w1, _, w1, f', _, w1, run_enterLoop_outer fid a.tmps ps asg bd, hres, fun _ _ => trivial, hinv, fun h => by simp [Fence.wide] at h, ?_⟩
  refine callsIn_wide.2 (Calls.mono (hsound w1 E _ hA1 (by rw [bsF_nil]; exact ⟨fun _ => trivial, fun r r' b h => by simp [mblk] at h, fun r b h => by simp [mblk] at h⟩) (fun b hb => by rw [z2]; have := hFl b hb; omega)) ?_)
  rintro e w2 ⟨E1, hfr, v, rfl, _⟩
  have hnM : ∀ b, ¬ ∃ r, mblk (bsF []) E r = some b := by rintro b ⟨r, h⟩; simp [bsF_nil, mblk] at h
  have hL2 : w2.heap[w.heap.size + 1]? = some (.loop rc) := (hfr.keep _ (by show _ < w1.heap.size; rw [z2]; omega) (hnM _)).trans hL
  have hD2 : w2.heap[w.heap.size]? = some (.deferred (some [])) := (hfr.keep _ (by show _ < w1.heap.size; rw [z2]; omega) (hnM _)).trans hD
  refine ⟨none, w2.putObj (w.heap.size + 1) (.loop { rc with state := .exhausted }), run_endLoop hL2 (by intro h; cases h), ?_⟩
  let w4 : World := w2.putObj (w.heap.size + 1) (.loop { rc with state := .exhausted })
  have z4 : w4.heap.size = w2.heap.size := by simp [w4, World.putObj]
  have hgr : w.heap.size + 2 ≤ w2.heap.size := by have := hfr.grow; rw [← z2]; exact this
  have hk4 : ∀ b, b ≠ w.heap.size + 1 → w4.heap[b]? = w2.heap[b]? := fun b hb => World.putObj_heap_other hb
  have hold4 : ∀ b, b < w.heap.size → w4.heap[b]? = w.heap[b]? := fun b hb =>
    (hk4 b (by omega)).trans ((hfr.keep b (by show _ < w1.heap.size; rw [z2]; omega) (hnM b)).trans (hold b hb))
  have hD4 : w4.heap[w.heap.size]? = some (.deferred (some [])) := (hk4 _ (by omega)).trans hD2
  have hs4 : Sim G.T ⟨⟨w0, E0.F, fun b => ∃ r, mblk (fun _ => Blk.none) E0 r = some b⟩, fun _ => Blk.none, E0, []⟩ (s.app none ⟨.junk, [(s.nx, .lock w.heap.size)], s.nx + 1⟩) (a.put none undef) w4 ⟨upd E.σ s.nx w.heap.size, E.sv, E.F⟩ := by
    refine one_step (b' := .lock w.heap.size) (E' := ⟨upd E.σ s.nx w.heap.size, E.sv, E.F⟩) (w' := w4) hs (fun q hq => ⟨upd_ne _ _ hq, rfl⟩) rfl (fun h => absurd hnx h) hfr.os hfr.tape hfr.output (by rw [z4]; omega)
      (fun k hk _ => hold4 k hk) (fun _ => ?_) (fun b h => ?_) none (s.nx + 1) (RA_junk _ _)
    · show upd E.σ s.nx w.heap.size s.nx = _ ∧ w4.heap[upd E.σ s.nx w.heap.size s.nx]? = _
      rw [upd_same]
      exact ⟨rfl, hD4⟩
    · simp only [mblk, upd_same, Option.some.injEq] at h
      subst h
      exact ⟨.inr (Nat.le_refl _), by rw [z4]; omega⟩
  have hs5 : Sim G.T ⟨⟨w0, E0.F, fun b => ∃ r, mblk (fun _ => Blk.none) E0 r = some b⟩, fun _ => Blk.none, E0, [{ target := .collected w.heap.size, args := #[] }]⟩ (s.app none ⟨.junk, [(s.nx, .lock w.heap.size)], s.nx + 1⟩)
      { a with defers := [{ target := .collected w.heap.size, args := #[] }] ++ a.defers } w4 ⟨upd E.σ s.nx w.heap.size, E.sv, E.F⟩ :=
    ⟨by show _ ++ a.defers = _; rw [hs.defers]; rfl, hs4.size, hs4.tm, hs4.bl, hs4.own, hs4.fr, hs4.hist, hs4.old, hs4.mo⟩
  have htp5 : Top (s.app none ⟨.junk, [(s.nx, .lock w.heap.size)], s.nx + 1⟩) := htp.app (by simp [effOK])
  show (post.wp P _ _ _ : Prop)
  refine wp_mono (code_sound ht hm hC hJ hJm post hcp (hw w.heap.size) htp5 hs5) ?_
  have fin : ∀ (a' : Act) (w5 : World) (s' : St) (E' : Env), s'.bs s.nx = .lock w.heap.size → (∃ r', Out.ret r = .ret r' ∧ retQ G fn r' (s'.app none ⟨.junk, [(s.nx, .dead)], s'.nx⟩)) →
      Sim G.T ⟨⟨w0, E0.F, fun b => ∃ r, mblk (fun _ => Blk.none) E0 r = some b⟩, fun _ => Blk.none, E0, [{ target := .collected w.heap.size, args := #[] }]⟩ s' a' w5 E' →
      LeavesInM Fence.wide 1 P fn a'.tmps (fun e w' => ∃ E', Frame ⟨w0, E0.F, fun b => ∃ r, mblk (fun _ => Blk.none) E0 r = some b⟩ w' E'.F ∧
        ∃ v, e = .returned v ∧ RA (fun _ => .none) w' E' r v ∧ Blocks G.T (fun _ => .none) w' E' ∧ BExt (fun _ => .none) E0 (fun _ => .none) E' ∧ ∀ r b, mblk (fun _ => .none) E' r = some b → (∃ q, mblk (fun _ => .none) E0 q = some b) ∨ w0.heap.size ≤ b) a'.defers .returning w5 := by
    rintro a' w5 s' E' hlk ⟨r', hr', hret⟩ hs'
    cases hr'
    have hB := hs'.bl.blk s.nx
    rw [hlk] at hB
    obtain ⟨b1, b2⟩ := hB
    have hlm : mblk s'.bs E' s.nx = some w.heap.size := by simp [mblk, hlk, b1]
    have hD5 : w5.heap[w.heap.size]? = some (.deferred (some [])) := by rw [← b1]; exact b2
    have hs6 : Sim G.T ⟨⟨w0, E0.F, fun b => ∃ r, mblk (fun _ => Blk.none) E0 r = some b⟩, fun _ => Blk.none, E0, [{ target := .collected w.heap.size, args := #[] }]⟩ (s'.app none ⟨.junk, [(s.nx, .dead)], s'.nx⟩) (a'.put none undef) (w5.putObj w.heap.size (.deferred none)) E' := by
      refine one_step (b' := .dead) (E' := E') (w' := w5.putObj w.heap.size (.deferred none)) hs' (fun _ _ => ⟨rfl, rfl⟩) rfl (fun _ => by rw [upd_same]; trivial) rfl rfl rfl (by simp [World.putObj])
        (fun k _ hne => World.putObj_heap_other fun e => hne (by rw [e]; exact hlm.symm)) (fun _ => trivial) (fun b h => by simp [mblk, upd_same] at h) none s'.nx (RA_junk _ _)
    have hown : ∀ r b, mblk (s'.app none ⟨.junk, [(s.nx, .dead)], s'.nx⟩).bs E' r = some b → w0.heap.size ≤ b := fun r b h => by
      rcases hs6.own r b h with h | h
      · have := h.2; simp [mblk] at this
      · exact h
    obtain ⟨v, g1, E6, g2, g3, g4⟩ := ret_sound' ht (Y := ⟨w0, E0.F, fun b => ∃ r, mblk (fun _ => Blk.none) E0 r = some b⟩) hs6 hret hs6.fr hown
    rw [hs'.defers]
    refine ⟨(by intro h; cases h), .inl ⟨w.heap.size, w5.putObj w.heap.size (.deferred none), rfl, run_takeDeferred hD5, v, g1, E6, g2, v, rfl, g3, ?_, BExt.ofNone _ _ _, fun r b h => by simp [mblk] at h⟩⟩
    exact ⟨fun _ => trivial, fun r r' b h => by simp [mblk] at h, fun r b h => by simp [mblk] at h⟩
  intro e a' w5 hq
  cases e with
  | normal => obtain ⟨s', E', ⟨h1, h2⟩, _, h3⟩ := hq; exact fin _ _ _ _ h1 h2 h3
  | ret => obtain ⟨s', E', ⟨h1, h2⟩, _, h3⟩ := hq; exact fin _ _ _ _ h1 h2 h3
  | panic ch =>
    obtain ⟨v, s', F', rfl, ⟨_, h1⟩, _⟩ := hq
    cases h1
  | exit id => obtain ⟨s', E', ⟨_, h1⟩, _⟩ := hq; exact h1.elim
  | goto l => exact hq.elim
  | outgrown => exact hq.elim
end
end Go.Fw
