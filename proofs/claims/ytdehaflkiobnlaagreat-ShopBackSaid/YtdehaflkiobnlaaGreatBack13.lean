/- A part of the proof of Rows.ShopBackSaid: what ShopBack answers, whatever the arguments; it stands under no condition. -/
import Derived.Test.YtdehaflkiobnlaaGreatBack07
import Derived.RangeFuncIn
import Derived.RangeFuncRecord
import Derived.RangeFuncLeaves
import Derived.Test.YtdehaflkiobnlaaGreatBack12
import Derived.Test.YtdehaflkiobnlaaGreatBack09
set_option linter.unusedVariables false
set_option linter.unusedSimpArgs false
set_option linter.unusedSectionVars false
set_option linter.deprecated false
/- A range over a function that yields nothing runs well. -/
namespace Go.Fw
open Go Go.RowKit

section
variable {P : Program} {G : Cfg} (ht : TOK P G.T) {X : Ctx2}

/-- What is handed back, as another beginning sees it. -/
theorem ret_sound' (ht : TOK P G.T) {fn : Func} {s : St} {a : Act} {w : World} {E : Env} {r : AV} {Y : Ctx} (hs : Sim G.T X s a w E) (h : retQ G fn r s) (hY : Frame Y w E.F) (hown : ∀ r b, mblk s.bs E r = some b → Y.w.heap.size ≤ b) :
    ∃ v, (results fn a.tmps).run P w = .ok v w ∧ ∃ E', Frame Y w E'.F ∧ RA (fun _ => .none) w E' r v ∧ ∀ b, E'.F b → E.F b ∨ ∃ q, mblk s.bs E q = some b := by
  obtain ⟨m, vs, h1, h2, h3⟩ := resK_sound ht hs h
  have hA : A2 (RA s.bs w E) (m.map AV.w) vs := A2.map_left (f := AV.w) h2
  obtain ⟨l', rs, ⟨m', rfl, hr⟩, hrs, hq⟩ := argsK_sound hs.bl hA (retLK_args h1)
  have hrow : ∀ r ∈ rs, ∀ b, (E.sv r).ownBlock = some b → b < w.heap.size ∧ (E.F b ∨ mblk s.bs E r = some b) := by
    intro r hr b hb
    obtain ⟨e, xs, fz, he⟩ := hrs r hr
    have hB := hs.bl.blk r
    rw [he] at hB
    refine ⟨(hB.2.2.2.1.lt b hb).2, ?_⟩
    cases fz with
    | true => exact .inl (hB.2.2.2.2 rfl b hb)
    | false => exact .inr (by simp [mblk, he, hb])
  refine ⟨if h : vs.toArray.size = 1 then vs.toArray[0] else .tuple vs.toArray, results_run h3, ⟨E.σ, E.sv, fun b => E.F b ∨ ∃ r ∈ rs, (E.sv r).ownBlock = some b⟩, ?_, ?_, ?_⟩
  · exact
      { flt := fun b hb => by
          rcases hb with hb | ⟨r, hr, hb⟩
          · exact hY.flt b hb
          · obtain ⟨g1, g2⟩ := hrow r hr b hb
            refine ⟨g1, ?_⟩
            rcases g2 with g2 | g2
            · exact (hY.flt b g2).2
            · exact .inr (hown r b g2)
        fge := fun b hb => .inl (hY.fge b hb), os := hY.os, tape := hY.tape, output := hY.output, grow := hY.grow, keep := hY.keep }
  · have hq' := hq (fun b => E.F b ∨ ∃ r ∈ rs, (E.sv r).ownBlock = some b) (fun b hb => .inl hb) (fun r hr b hb => .inr ⟨r, hr, hb⟩)
    subst hr
    cases m' with
    | nil =>
      cases vs with
      | nil => exact ⟨_, rfl, trivial⟩
      | cons v vs => exact hq'.elim
    | cons x m' =>
      cases vs with
      | nil => exact hq'.elim
      | cons v vs =>
        cases m' with
        | nil =>
          cases vs with
          | nil => exact hq'.1
          | cons v' vs => exact hq'.2.elim
        | cons x' m' =>
          cases vs with
          | nil => exact hq'.2.elim
          | cons v' vs =>
            refine ⟨_, by simp; rfl, ?_⟩
            have go : ∀ {l : List W1} {us : List Value} {bs : Nat → Blk} {E : Env}, A2 (RA bs w E) (l.map AV.w) us → A2 (RW bs w E) l us := by
              intro l
              induction l with
              | nil => intro us _ _ h; cases us <;> exact h
              | cons x l ih => intro us _ _ h; cases us with
                | nil => exact h.elim
                | cons u us => exact ⟨h.1, ih h.2⟩
            exact go hq'
  · rintro b (hb | ⟨r, hr, hb⟩)
    · exact .inl hb
    · exact (hrow r hr b hb).2.imp_right fun h => ⟨r, h⟩

/-- On, if nothing jumps. -/
def nK (N : St → Prop) : Ex → St → Prop := fun e s => match e with | .normal => N s | _ => False
theorem nK_elim {N : St → Prop} {e : Exit} {a : Act} {w : World} (h : QQ G.T X (nK N) e a w) : e = .normal ∧ ∃ s E, N s ∧ Top s ∧ Sim G.T X s a w E := by
  cases e with
  | normal => obtain ⟨s, E, h1, h2, h3⟩ := h; exact ⟨rfl, s, E, h1, h2, h3⟩
  | ret => obtain ⟨s, E, h1, _⟩ := h; exact h1.elim
  | exit id => obtain ⟨s, E, h1, _⟩ := h; exact h1.elim
  | panic ch => obtain ⟨v, s, F, _, h1, _⟩ := h; exact h1.elim
  | goto l => exact h.elim
  | outgrown => exact h.elim
/-- The function that is ranged over: it ends, and yields nothing (it has no way to). Behind it lies what is put off until the end. -/
structure rf0 (C : CallRel) (g : Operand) (N : Nat → Nat → St → Prop) (s : St) : Prop where
  h : ∃ f pre caps, s.ev g = .w (.one (.fn f pre caps)) ∧ C f (pre.map capAV ++ [.junk] ++ caps.map capAV) [] (.ret (.tup [])) [] ∧ s.bs s.nx = .none ∧ ∀ D, N s.nx D (s.app none ⟨.junk, [(s.nx, .lock D)], s.nx + 1⟩)

theorem range0_sound (ht : TOK P G.T) (hm : P.follows .mixedOrders = true) {C : CallRel} {J : Inl} (hC : ∀ f ar bs out bs', C f ar bs out bs' → Sound P G.T f ar bs out bs') (hJ : SoundJ P G.T J) (hJm : InlMono J J) {f : FuncId} {ar : List AV} {r : AV} {fn : Func}
    {c1 c2 c3 c4 c5 post : Code} {id : Nat} {g : Operand} {ps : Array Tmp} {as bd : Code}
    (hc1 : noComm c1 = true) (hc2 : noComm c2 = true) (hc3 : noComm c3 = true) (hc4 : noComm c4 = true) (hc5 : noComm c5 = true) (hcp : noComm post = true)
    (hf : P.funcs[f]? = some fn) (hb : fn.body = some (c1.seq (c2.seq (c3.seq (c4.seq ((c5.seq (.block id (.rangeFunc g ps as bd))).seq post)))))) (hn : (fn.name == "runtime.NumGoroutine") = false)
    (hw : wpC G C J c1 (nK fun s => wpC G C J c2 (nK fun s => wpC G C J c3 (nK fun s => wpC G C J c4 (nK fun s => wpC G C J c5 (nK (rf0 C g fun k D s =>
      wpC G C J post (fun e s => s.bs k = .lock D ∧ bodyQ G fn (.ret r) e (s.app none ⟨.junk, [(k, .dead)], s.nx⟩)) s)) s) s) s) s) (initS ar (max ar.length fn.ntmps))) :
    Sound P G.T f ar [] (.ret r) [] := by
  refine ⟨⟨fn, _, hf, hb, hn⟩, fun w0 E0 vs hA hbl hlt => ?_⟩
  rw [bsF_nil] at hA hbl ⊢
  have hs0 := start_sim (G := G) (k := 0) fn.ntmps 0 hA hbl hlt (fun r h => absurd rfl h)
  have htp0 : Top (initS ar (max ar.length fn.ntmps)) := fun _ _ => rfl
  refine (callsIn_wide (n := 1)).1 (callsIn_of_wp_marks hf hb trivial (wpIn_wide.2 ?_))
  refine wp_seq (wp_mono (code_sound ht hm hC hJ hJm c1 hc1 hw htp0 hs0) ?_)
  intro e a w hq
  obtain ⟨rfl, s, E, hw, htp, hs⟩ := nK_elim hq
  refine wp_seq (wp_mono (code_sound ht hm hC hJ hJm c2 hc2 hw htp hs) ?_)
  intro e a w hq
  obtain ⟨rfl, s, E, hw, htp, hs⟩ := nK_elim hq
  refine wp_seq (wp_mono (code_sound ht hm hC hJ hJm c3 hc3 hw htp hs) ?_)
  intro e a w hq
  obtain ⟨rfl, s, E, hw, htp, hs⟩ := nK_elim hq
  refine wp_seq (wp_mono (code_sound ht hm hC hJ hJm c4 hc4 hw htp hs) ?_)
  intro e a w hq
  obtain ⟨rfl, s, E, hw, htp, hs⟩ := nK_elim hq
  refine wp_seq (wp_seq (wp_mono (code_sound ht hm hC hJ hJm c5 hc5 hw htp hs) ?_))
  intro e a w hq
  obtain ⟨rfl, s, E, ⟨f', pre, caps, hg, hcall, hnx, hw⟩, htp, hs⟩ := nK_elim hq
  refine wp_block ?_
  obtain ⟨⟨fn', cc, h1, h2, h3⟩, hsound⟩ := hC _ _ _ _ _ hcall
  have hv := hs.ev g
  rw [hg] at hv
  obtain ⟨p, q, hfv, hp, hq⟩ := hv.1
  have hFl : ∀ b, E.F b → b < w.heap.size := fun b hb => (hs.fr.flt b hb).1
  refine (wpIn_wide (n := 1)).1 (wpIn_rangeFunc fun fid _ => ?_)
  let rc : Loop := { state := .ready, pending := none, fn := fid, tmps := a.tmps, params := ps, assign := as, body := bd, defers := w.heap.size }
  let w1 : World := (w.alloc (.deferred (some []))).alloc (.loop rc)
  have z1 : (w.alloc (.deferred (some []))).heap.size = w.heap.size + 1 := size_alloc _ _
  have z2 : w1.heap.size = w.heap.size + 2 := by
    show ((w.alloc (.deferred (some []))).alloc (.loop rc)).heap.size = _
    rw [size_alloc, z1]
  have hold : ∀ b, b < w.heap.size → w1.heap[b]? = w.heap[b]? := fun b hb =>
    (heap_alloc_old _ _ b (by rw [z1]; omega)).trans (heap_alloc_old w _ b hb)
  have hD : w1.heap[w.heap.size]? = some (.deferred (some [])) := (heap_alloc_old _ _ _ (by rw [z1]; omega)).trans (heap_alloc_new w _)
  have hL : w1.heap[w.heap.size + 1]? = some (.loop rc) := by rw [← z1]; exact heap_alloc_new _ _
  have hres : (resolve a.eval (rangeCall g (w.heap.size + 1)) 0).run P w1 = .ok { target := .fn (.func f') q, args := p ++ #[.func (.yield (w.heap.size + 1)) #[] #[]] } w1 := by
    simp [resolve, rangeCall, hfv, Deferred.ofValue]
    rfl
  have hinv : (invoke (.fn (.func f') q) (p ++ #[.func (.yield (w.heap.size + 1)) #[] #[]])).run P w1 = .ok (.enter f' (p ++ #[.func (.yield (w.heap.size + 1)) #[] #[]] ++ q)) w1 := by
    simp only [invoke]
    exact callFunc_run h1 h2 h3 _
  have hf1 : FExt w E.F w1 E.F := ⟨fun _ h => h, fun b hb => hold b (hFl b hb)⟩
  have hA1 : A2 (RA (bsF []) w1 E) (pre.map capAV ++ [.junk] ++ caps.map capAV) (p ++ #[Value.func (.yield (w.heap.size + 1)) #[] #[]] ++ q).toList := by
    simp only [Array.toList_append]
    refine A2.append (A2.append ?_ (l' := [AV.junk]) (m' := [Value.func (.yield (w.heap.size + 1)) #[] #[]]) ⟨RA_junk _ _, trivial⟩) ?_
    · exact caps_sound (F := E.F) rfl (hp.mono fun _ _ h => h.ext hf1)
    · exact caps_sound (F := E.F) rfl (hq.mono fun _ _ h => h.ext hf1)
  refine ⟨w.heap.size + 1, [{ target := .collected w.heap.size, args := #[] }], w1, _, w1, f', _, w1, run_enterLoop_outer fid a.tmps ps as bd, hres, fun _ _ => trivial, hinv, fun h => by simp [Fence.wide] at h, ?_⟩
  refine callsIn_wide.2 (Calls.mono (hsound w1 E _ hA1 (by rw [bsF_nil]; exact ⟨fun _ => trivial, fun r r' b h => by simp [mblk] at h, fun r b h => by simp [mblk] at h⟩) (fun b hb => by rw [z2]; have := hFl b hb; omega)) ?_)
  rintro e w2 ⟨E1, hfr, v, rfl, _⟩
  have hnM : ∀ b, ¬ ∃ r, mblk (bsF []) E r = some b := by rintro b ⟨r, h⟩; simp [bsF_nil, mblk] at h
  have hL2 : w2.heap[w.heap.size + 1]? = some (.loop rc) := (hfr.keep _ (by show _ < w1.heap.size; rw [z2]; omega) (hnM _)).trans hL
  have hD2 : w2.heap[w.heap.size]? = some (.deferred (some [])) := (hfr.keep _ (by show _ < w1.heap.size; rw [z2]; omega) (hnM _)).trans hD
  refine ⟨none, w2.putObj (w.heap.size + 1) (.loop { rc with state := .exhausted }), run_endLoop hL2 (by intro h; cases h), ?_⟩
  let w4 : World := w2.putObj (w.heap.size + 1) (.loop { rc with state := .exhausted })
  have z4 : w4.heap.size = w2.heap.size := by simp [w4, World.putObj]
  have hgr : w.heap.size + 2 ≤ w2.heap.size := by have := hfr.grow; rw [← z2]; exact this
  have hk4 : ∀ b, b ≠ w.heap.size + 1 → w4.heap[b]? = w2.heap[b]? := fun b hb => World.putObj_heap_other hb
  have hold4 : ∀ b, b < w.heap.size → w4.heap[b]? = w.heap[b]? := fun b hb =>
    (hk4 b (by omega)).trans ((hfr.keep b (by show _ < w1.heap.size; rw [z2]; omega) (hnM b)).trans (hold b hb))
  have hD4 : w4.heap[w.heap.size]? = some (.deferred (some [])) := (hk4 _ (by omega)).trans hD2
  have hs4 : Sim G.T ⟨⟨w0, E0.F, fun b => ∃ r, mblk (fun _ => Blk.none) E0 r = some b⟩, fun _ => Blk.none, E0, []⟩ (s.app none ⟨.junk, [(s.nx, .lock w.heap.size)], s.nx + 1⟩) (a.put none undef) w4 ⟨upd E.σ s.nx w.heap.size, E.sv, E.F⟩ := by
    refine one_step (b' := .lock w.heap.size) (E' := ⟨upd E.σ s.nx w.heap.size, E.sv, E.F⟩) (w' := w4) hs (fun q hq => ⟨upd_ne _ _ hq, rfl⟩) rfl (fun h => absurd hnx h) hfr.os hfr.tape hfr.output (by rw [z4]; omega)
      (fun k hk _ => hold4 k hk) (fun _ => ?_) (fun b h => ?_) none (s.nx + 1) (RA_junk _ _)
    · show upd E.σ s.nx w.heap.size s.nx = _ ∧ w4.heap[upd E.σ s.nx w.heap.size s.nx]? = _
      rw [upd_same]
      exact ⟨rfl, hD4⟩
    · simp only [mblk, upd_same, Option.some.injEq] at h
      subst h
      exact ⟨.inr (Nat.le_refl _), by rw [z4]; omega⟩
  have hs5 : Sim G.T ⟨⟨w0, E0.F, fun b => ∃ r, mblk (fun _ => Blk.none) E0 r = some b⟩, fun _ => Blk.none, E0, [{ target := .collected w.heap.size, args := #[] }]⟩ (s.app none ⟨.junk, [(s.nx, .lock w.heap.size)], s.nx + 1⟩)
      { a with defers := [{ target := .collected w.heap.size, args := #[] }] ++ a.defers } w4 ⟨upd E.σ s.nx w.heap.size, E.sv, E.F⟩ :=
    ⟨by show _ ++ a.defers = _; rw [hs.defers]; rfl, hs4.size, hs4.tm, hs4.bl, hs4.own, hs4.fr, hs4.hist, hs4.old, hs4.mo⟩
  have htp5 : Top (s.app none ⟨.junk, [(s.nx, .lock w.heap.size)], s.nx + 1⟩) := htp.app (by simp [effOK])
  show (post.wp P _ _ _ : Prop)
  refine wp_mono (code_sound ht hm hC hJ hJm post hcp (hw w.heap.size) htp5 hs5) ?_
  have fin : ∀ (a' : Act) (w5 : World) (s' : St) (E' : Env), s'.bs s.nx = .lock w.heap.size → (∃ r', Out.ret r = .ret r' ∧ retQ G fn r' (s'.app none ⟨.junk, [(s.nx, .dead)], s'.nx⟩)) →
      Sim G.T ⟨⟨w0, E0.F, fun b => ∃ r, mblk (fun _ => Blk.none) E0 r = some b⟩, fun _ => Blk.none, E0, [{ target := .collected w.heap.size, args := #[] }]⟩ s' a' w5 E' →
      LeavesInM Fence.wide 1 P fn a'.tmps (fun e w' => ∃ E', Frame ⟨w0, E0.F, fun b => ∃ r, mblk (fun _ => Blk.none) E0 r = some b⟩ w' E'.F ∧
        ∃ v, e = .returned v ∧ RA (fun _ => .none) w' E' r v ∧ Blocks G.T (fun _ => .none) w' E' ∧ BExt (fun _ => .none) E0 (fun _ => .none) E' ∧ ∀ r b, mblk (fun _ => .none) E' r = some b → (∃ q, mblk (fun _ => .none) E0 q = some b) ∨ w0.heap.size ≤ b) a'.defers .returning w5 := by
    rintro a' w5 s' E' hlk ⟨r', hr', hret⟩ hs'
    cases hr'
    have hB := hs'.bl.blk s.nx
    rw [hlk] at hB
    obtain ⟨b1, b2⟩ := hB
    have hlm : mblk s'.bs E' s.nx = some w.heap.size := by simp [mblk, hlk, b1]
    have hD5 : w5.heap[w.heap.size]? = some (.deferred (some [])) := by rw [← b1]; exact b2
    have hs6 : Sim G.T ⟨⟨w0, E0.F, fun b => ∃ r, mblk (fun _ => Blk.none) E0 r = some b⟩, fun _ => Blk.none, E0, [{ target := .collected w.heap.size, args := #[] }]⟩ (s'.app none ⟨.junk, [(s.nx, .dead)], s'.nx⟩) (a'.put none undef) (w5.putObj w.heap.size (.deferred none)) E' := by
      refine one_step (b' := .dead) (E' := E') (w' := w5.putObj w.heap.size (.deferred none)) hs' (fun _ _ => ⟨rfl, rfl⟩) rfl (fun _ => by rw [upd_same]; trivial) rfl rfl rfl (by simp [World.putObj])
        (fun k _ hne => World.putObj_heap_other fun e => hne (by rw [e]; exact hlm.symm)) (fun _ => trivial) (fun b h => by simp [mblk, upd_same] at h) none s'.nx (RA_junk _ _)
    have hown : ∀ r b, mblk (s'.app none ⟨.junk, [(s.nx, .dead)], s'.nx⟩).bs E' r = some b → w0.heap.size ≤ b := fun r b h => by
      rcases hs6.own r b h with h | h
      · have := h.2; simp [mblk] at this
      · exact h
    obtain ⟨v, g1, E6, g2, g3, g4⟩ := ret_sound' ht (Y := ⟨w0, E0.F, fun b => ∃ r, mblk (fun _ => Blk.none) E0 r = some b⟩) hs6 hret hs6.fr hown
    rw [hs'.defers]
    refine ⟨(by intro h; cases h), .inl ⟨w.heap.size, w5.putObj w.heap.size (.deferred none), rfl, run_takeDeferred hD5, v, g1, E6, g2, v, rfl, g3, ?_, BExt.ofNone _ _ _, fun r b h => by simp [mblk] at h⟩⟩
    exact ⟨fun _ => trivial, fun r r' b h => by simp [mblk] at h, fun r b h => by simp [mblk] at h⟩
  intro e a' w5 hq
  cases e with
  | normal => obtain ⟨s', E', ⟨h1, h2⟩, _, h3⟩ := hq; exact fin _ _ _ _ h1 h2 h3
  | ret => obtain ⟨s', E', ⟨h1, h2⟩, _, h3⟩ := hq; exact fin _ _ _ _ h1 h2 h3
  | panic ch =>
    obtain ⟨v, s', F', rfl, ⟨_, h1⟩, _⟩ := hq
    cases h1
  | exit id => obtain ⟨s', E', ⟨_, h1⟩, _⟩ := hq; exact h1.elim
  | goto l => exact hq.elim
  | outgrown => exact hq.elim
end
end Go.Fw
namespace Go.Fw
open Go Go.RowKit
theorem set_two {w : World} {b : Nat} {u v : Value} {t : TypeId} (h : w.heap[b]? = some (.cells #[u, v] t (0, 0))) (x : Value) : (w.setCell ⟨b, 0, none⟩ x).heap[b]? = some (.cells #[x, v] t (0, 0)) := by
  have hb := (Array.getElem?_eq_some_iff.1 h).1
  have he := (Array.getElem?_eq_some_iff.1 h).2
  simp [World.setCell, Array.getElem?_modify, h]
theorem soundJ : SoundJ Pr T jiB := by
  rintro f ar s K Pp ⟨rfl, r, c1, rfl, h⟩
  refine ⟨⟨_, _, Go.Proofs.Tryz.func378, rfl, rfl⟩, ?_⟩
  intro w E vs hA hB hF htop
  have hk : ∀ r, s.bs r ≠ .none → r < s.nx := fun q hq => by
    rcases Nat.lt_or_ge q s.nx with h | h
    · exact h
    · exact absurd (htop q h) hq
  obtain ⟨v, rfl, hv⟩ : ∃ v, vs = #[v] ∧ RA s.bs w E (.one (.ptr r 0)) v := by
    rcases vs with ⟨l⟩
    match l, hA with
    | [v], hA => exact ⟨v, rfl, hA.1⟩
  rcases h with ⟨hr, hK⟩ | ⟨hr, hK⟩
  · have hvp : v = .pointer (some ⟨E.σ r, 0, none⟩) := by
      have := hv.1
      simp only [RC, hr] at this
      exact this
    subst hvp
    have hb := hB.blk r
    rw [hr] at hb
    obtain ⟨ar, hh, hAr⟩ := hb
    rcases ar with ⟨l⟩
    match l, hAr with
    | [u, v1], hAr =>
    have hu : u = .pointer none := hAr.1.1
    subst hu
    refine (fresh378 (E.σ r) w (by rw [Lib.cell_of_heap hh]; rfl) (by simp [World.shape?, hh]) (Lib.frozen_of_heap hh 0)).mono ?_
    rintro e w' ⟨rfl, rfl⟩
    have hs := start_sim (G := cfg) (k := s.nx) (ar := [.one (.ptr r 0)]) (vs := #[.pointer (some ⟨E.σ r, 0, none⟩)]) 0 s.nx ⟨hv, trivial⟩ hB hF hk
    have hm : mblk s.bs E r = some (E.σ r) := by simp [mblk, hr]
    have h2 := one_step hs (r := r) (b' := .vars [.ptr r 0, c1]) (w' := w.setCell ⟨E.σ r, 0, none⟩ (.pointer (some ⟨E.σ r, 0, none⟩))) (E' := E) (fun _ _ => ⟨rfl, rfl⟩) rfl
      (by intro _; rw [upd_same]; exact ⟨⟨_, .inr ⟨321, hr⟩⟩, rfl⟩) rfl rfl rfl (by simp [World.setCell]) (fun k _ hne => Below.heap_setCell w _ _ k (fun he => hne (by rw [he]; exact hm.symm)))
      (fun hbe => ⟨#[.pointer (some ⟨E.σ r, 0, none⟩), v1], 321, set_two hh _, ⟨by simp [RC, upd_same], rfl⟩, RC1.ext ⟨fun _ h => h, fun b hb => Below.heap_setCell w _ _ b (fun he => (hB.mt r _ hm).1 (by have he' : b = E.σ r := he; rw [← he']; exact hb))⟩ hbe hAr.2.1, trivial⟩)
      (fun b hb => ?_) none s.nx (v := .junk) (val := undef) ⟨trivial, trivial⟩
    · refine .inl ⟨s.app none ⟨.junk, [(r, .vars [.ptr r 0, c1])], s.nx⟩, E, h2.fr, h2.hist, h2.bl, ?_, fun q b hq => ?_, .tup [], _, rfl, ⟨#[], rfl, trivial⟩, hK⟩
      · intro q hq
        have hq' : s.nx ≤ q := hq
        show updL s.bs [(r, .vars [.ptr r 0, c1])] q = .none
        have hrn := hk r (by rw [hr]; simp)
        show upd s.bs r _ q = .none
        rw [upd_ne _ _ (by omega)]
        exact htop q hq'
      · exact h2.own q b hq
    · have : b = E.σ r := by simp [mblk, upd_same] at hb; exact hb.symm
      subst this
      exact ⟨.inl hm.symm, by simp [World.setCell]; exact (hB.mt r _ hm).2⟩
  · have hvp : v = .pointer (some ⟨E.σ r, 0, none⟩) := by
      have := hv.1
      simp only [RC, hr] at this
      exact this
    subst hvp
    have hb := hB.blk r
    rw [hr] at hb
    obtain ⟨ar, ty, hh, hAr⟩ := hb
    rcases ar with ⟨l⟩
    match l, hAr with
    | [u, v1], hAr =>
    have hu : u = .pointer (some ⟨E.σ r, 0, none⟩) := by
      have := hAr.1.1
      simp only [RC, hr] at this
      exact this
    subst hu
    refine (used378 (E.σ r) w (by rw [Lib.cell_of_heap hh]; rfl)).mono ?_
    rintro e w' ⟨rfl, rfl⟩
    have hs := start_sim (G := cfg) (k := s.nx) (ar := [.one (.ptr r 0)]) (vs := #[.pointer (some ⟨E.σ r, 0, none⟩)]) 0 s.nx ⟨hv, trivial⟩ hB hF hk
    exact .inl ⟨s, E, hs.fr, BExt.refl _ _, hB, htop, fun q b hq => hs.own q b hq, .tup [], _, rfl, ⟨#[], rfl, trivial⟩, hK⟩
end Go.Fw
/- Small lemmas for walks. -/
namespace Go.Fw
open Go
theorem wrap64 {n : Int} (h1 : -9223372036854775808 ≤ n) (h2 : n ≤ 9223372036854775807) : IntKind.wrap .i64 n = n := by
  simp [IntKind.wrap, IntKind.bits, IntKind.signed]
  split <;> omega
theorem lens_of {xs : List (List Value)} {k : Nat} (h : (xs.all fun es => Nat.beq es.length k) = true) : ∀ es ∈ xs, es.length = k := fun es he => Nat.eq_of_beq_eq_true (List.all_eq_true.1 h es he)
theorem drop_get {α : Type} {l : List α} {i : Nat} {x : α} (h : l[i]? = some x) : l.drop i = x :: l.drop (i + 1) := by
  have hlt := (List.getElem?_eq_some_iff.1 h)
  rw [← hlt.2]; exact (List.getElem_cons_drop ..).symm
theorem take_get {α : Type} {l : List α} {i : Nat} {x : α} (h : l[i]? = some x) : l.take (i + 1) = l.take i ++ [x] := by
  rw [List.take_succ, h]; rfl
theorem get_map {α β : Type} (f : α → β) {l : List α} {i : Nat} {x : α} (h : l[i]? = some x) : (l.map f)[i]? = some (f x) := by simp [h]
theorem get_lt {α : Type} {l : List α} {i : Nat} (h : i < l.length) : ∃ x, l[i]? = some x := ⟨l[i], by simp [h]⟩
theorem wpN_succ {i n : Nat} {K : Int → Prop} (hi : i < n) (hn : n ≤ 140737488355328) (h : K ((i + 1 : Nat) : Int)) : wpN (IntKind.wrap .i64 ((i : Int) + 1)) K :=
  wpN_e (by rw [wrap64 (by omega) (by omega)]; omega) h
end Go.Fw
namespace Go.Fw
open Go Go.Proofs.Tryz
variable {I : CallRel}
set_option maxRecDepth 100000 in
theorem al94e : PCX I 94 [.w (.agg [.p (.sl []), .p (.sl [])])] [] (.ret (AV.bool true)) [] := by
  refine pcall_intro func94 rfl rfl ?_
  repeat' ((conv => whnf) <;> first
    | refine wpB_t rfl ?_
    | refine wpB_f rfl ?_
    | refine wpLen_i ?_
    | refine wpN_e (n := 0) rfl ?_
    | refine wpN_e (n := 1) rfl ?_
    | refine wpN_e (n := 2) rfl ?_
    | refine wpN_e (n := 3) rfl ?_
    | refine wpN_e (n := 4) rfl ?_
    | refine wpN_e (n := 5) rfl ?_
    | refine wpN_e (n := 6) rfl ?_
    | refine wpN_e (n := 7) rfl ?_
    | refine wpN_e (n := 8) rfl ?_
    | refine wpN_e (n := 9) rfl ?_
    | refine wpN_e (n := 10) rfl ?_
    | refine wpN_e (n := 11) rfl ?_
    | refine wpN_e (n := 12) rfl ?_
    | refine wpN_e (n := 13) rfl ?_
    | refine wpN_e (n := -1) rfl ?_
    | refine wpN_e (n := 100) rfl ?_
    | refine wpN_e (n := 1099511627776) rfl ?_
    | refine loop_unroll' ?_
    | refine wpRegD_i rfl ?_
    | refine wpSide_i ⟨rfl, trivial⟩ ?_
    | refine wpSide_i trivial ?_
    | refine wpSide_i (by decide) ?_
    | refine wpSide_i (by simp) ?_
    | refine wpSide_i (by constructor <;> decide) ?_
    | refine wpIdx_i (n := 0) rfl rfl rfl ?_
    | refine wpIdx_i (n := 1) rfl rfl rfl ?_
    | refine wpIdx_i (n := 2) rfl rfl rfl ?_
    | refine wpIdx_i (n := 3) rfl rfl rfl ?_
    | refine wpIdx_i (n := 4) rfl rfl rfl ?_
    | refine wpIdx_i (n := 5) rfl rfl rfl ?_
    | refine wpIdx_i (n := 6) rfl rfl rfl ?_
    | refine wpIdx_i (n := 7) rfl rfl rfl ?_
    | refine wpIdx_i (n := 8) rfl rfl rfl ?_
    | refine wpIdx_i (n := 9) rfl rfl rfl ?_
    | refine wpIdx_i (n := 10) rfl rfl rfl ?_
    | refine wpIdx_i (n := 11) rfl rfl rfl ?_
    | refine wpIdx_i (n := 12) rfl rfl rfl ?_
    | refine wpIdx_i (n := 13) rfl rfl rfl ?_
    | (apply wpCall_r; apply pcall_intro func100 rfl rfl)
    | (apply wpCall_r; apply pcall_intro func197 rfl rfl)
    | (apply wpCall_r; apply pcall_intro func198 rfl rfl)
    | (apply wpCall_r; apply pcall_intro func199 rfl rfl)
    | (apply wpCall_r; apply pcall_intro func200 rfl rfl)
    | (apply wpCall_r; apply pcall_intro func201 rfl rfl)
    | (apply wpCall_r; apply pcall_intro func202 rfl rfl)
    | (apply wpCall_r; apply pcall_intro func203 rfl rfl)
    | (apply wpCall_r; apply pcall_intro func204 rfl rfl)
    | (apply wpCall_r; apply pcall_intro func205 rfl rfl)
    | (apply wpCall_r; apply pcall_intro func206 rfl rfl)
    | (apply wpCall_r; apply pcall_intro func214 rfl rfl)
    | (apply wpCall_r; apply pcall_intro func314 rfl rfl)
    | (apply wpCall_r; apply pcall_intro func315 rfl rfl)
    | (apply wpCall_r; apply pcall_intro func365 rfl rfl)
    | (apply wpCall_r; apply pcall_intro func366 rfl rfl)
    | (apply wpCall_r; apply pcall_intro func367 rfl rfl)
    | (apply wpCall_r; apply pcall_intro func368 rfl rfl)
    | (apply wpCall_r; apply pcall_intro func369 rfl rfl)
    | (apply wpCall_r; apply pcall_intro func370 rfl rfl)
    | (apply wpCall_r; apply pcall_intro func447 rfl rfl)
    | (apply wpCall_r; apply pcall_intro func481 rfl rfl)
    | (apply wpCall_r; apply pcall_intro func482 rfl rfl)
    | refine ⟨rfl, ?_⟩
    | refine ⟨_, rfl, ?_⟩
    | exact rfl)
set_option maxRecDepth 100000 in
theorem al95e : PCX I 95 [.one (.p (.sl []))] [] (.ret (AV.bool true)) [] := by
  refine pcall_intro func95 rfl rfl ?_
  repeat' ((conv => whnf) <;> first
    | refine wpB_t rfl ?_
    | refine wpB_f rfl ?_
    | refine wpLen_i ?_
    | refine wpN_e (n := 0) rfl ?_
    | refine wpN_e (n := 1) rfl ?_
    | refine wpN_e (n := 2) rfl ?_
    | refine wpN_e (n := 3) rfl ?_
    | refine wpN_e (n := 4) rfl ?_
    | refine wpN_e (n := 5) rfl ?_
    | refine wpN_e (n := 6) rfl ?_
    | refine wpN_e (n := 7) rfl ?_
    | refine wpN_e (n := 8) rfl ?_
    | refine wpN_e (n := 9) rfl ?_
    | refine wpN_e (n := 10) rfl ?_
    | refine wpN_e (n := 11) rfl ?_
    | refine wpN_e (n := 12) rfl ?_
    | refine wpN_e (n := 13) rfl ?_
    | refine wpN_e (n := -1) rfl ?_
    | refine wpN_e (n := 100) rfl ?_
    | refine wpN_e (n := 1099511627776) rfl ?_
    | refine loop_unroll' ?_
    | refine wpRegD_i rfl ?_
    | refine wpSide_i ⟨rfl, trivial⟩ ?_
    | refine wpSide_i trivial ?_
    | refine wpSide_i (by decide) ?_
    | refine wpSide_i (by simp) ?_
    | refine wpSide_i (by constructor <;> decide) ?_
    | refine wpIdx_i (n := 0) rfl rfl rfl ?_
    | refine wpIdx_i (n := 1) rfl rfl rfl ?_
    | refine wpIdx_i (n := 2) rfl rfl rfl ?_
    | refine wpIdx_i (n := 3) rfl rfl rfl ?_
    | refine wpIdx_i (n := 4) rfl rfl rfl ?_
    | refine wpIdx_i (n := 5) rfl rfl rfl ?_
    | refine wpIdx_i (n := 6) rfl rfl rfl ?_
    | refine wpIdx_i (n := 7) rfl rfl rfl ?_
    | refine wpIdx_i (n := 8) rfl rfl rfl ?_
    | refine wpIdx_i (n := 9) rfl rfl rfl ?_
    | refine wpIdx_i (n := 10) rfl rfl rfl ?_
    | refine wpIdx_i (n := 11) rfl rfl rfl ?_
    | refine wpIdx_i (n := 12) rfl rfl rfl ?_
    | refine wpIdx_i (n := 13) rfl rfl rfl ?_
    | (apply wpCall_r; apply pcall_intro func94 rfl rfl)
    | (apply wpCall_r; apply pcall_intro func100 rfl rfl)
    | (apply wpCall_r; apply pcall_intro func197 rfl rfl)
    | (apply wpCall_r; apply pcall_intro func198 rfl rfl)
    | (apply wpCall_r; apply pcall_intro func199 rfl rfl)
    | (apply wpCall_r; apply pcall_intro func200 rfl rfl)
    | (apply wpCall_r; apply pcall_intro func201 rfl rfl)
    | (apply wpCall_r; apply pcall_intro func202 rfl rfl)
    | (apply wpCall_r; apply pcall_intro func203 rfl rfl)
    | (apply wpCall_r; apply pcall_intro func204 rfl rfl)
    | (apply wpCall_r; apply pcall_intro func205 rfl rfl)
    | (apply wpCall_r; apply pcall_intro func206 rfl rfl)
    | (apply wpCall_r; apply pcall_intro func207 rfl rfl)
    | (apply wpCall_r; apply pcall_intro func214 rfl rfl)
    | (apply wpCall_r; apply pcall_intro func314 rfl rfl)
    | (apply wpCall_r; apply pcall_intro func315 rfl rfl)
    | (apply wpCall_r; apply pcall_intro func365 rfl rfl)
    | (apply wpCall_r; apply pcall_intro func366 rfl rfl)
    | (apply wpCall_r; apply pcall_intro func367 rfl rfl)
    | (apply wpCall_r; apply pcall_intro func368 rfl rfl)
    | (apply wpCall_r; apply pcall_intro func369 rfl rfl)
    | (apply wpCall_r; apply pcall_intro func370 rfl rfl)
    | (apply wpCall_r; apply pcall_intro func371 rfl rfl)
    | (apply wpCall_r; apply pcall_intro func372 rfl rfl)
    | (apply wpCall_r; apply pcall_intro func373 rfl rfl)
    | (apply wpCall_r; apply pcall_intro func374 rfl rfl)
    | (apply wpCall_r; apply pcall_intro func447 rfl rfl)
    | (apply wpCall_r; apply pcall_intro func481 rfl rfl)
    | (apply wpCall_r; apply pcall_intro func482 rfl rfl)
    | (apply wpCall_r; apply pcall_intro func483 rfl rfl)
    | refine ⟨rfl, ?_⟩
    | refine ⟨_, rfl, ?_⟩
    | exact rfl)
set_option maxRecDepth 100000 in
theorem al96e : PCX I 96 [.one (.p (.sl []))] [] (.ret (AV.bool true)) [] := by
  refine pcall_intro func96 rfl rfl ?_
  repeat' ((conv => whnf) <;> first
    | refine wpB_t rfl ?_
    | refine wpB_f rfl ?_
    | refine wpLen_i ?_
    | refine wpN_e (n := 0) rfl ?_
    | refine wpN_e (n := 1) rfl ?_
    | refine wpN_e (n := 2) rfl ?_
    | refine wpN_e (n := 3) rfl ?_
    | refine wpN_e (n := 4) rfl ?_
    | refine wpN_e (n := 5) rfl ?_
    | refine wpN_e (n := 6) rfl ?_
    | refine wpN_e (n := 7) rfl ?_
    | refine wpN_e (n := 8) rfl ?_
    | refine wpN_e (n := 9) rfl ?_
    | refine wpN_e (n := 10) rfl ?_
    | refine wpN_e (n := 11) rfl ?_
    | refine wpN_e (n := 12) rfl ?_
    | refine wpN_e (n := 13) rfl ?_
    | refine wpN_e (n := -1) rfl ?_
    | refine wpN_e (n := 100) rfl ?_
    | refine wpN_e (n := 1099511627776) rfl ?_
    | refine loop_unroll' ?_
    | refine wpRegD_i rfl ?_
    | refine wpSide_i ⟨rfl, trivial⟩ ?_
    | refine wpSide_i trivial ?_
    | refine wpSide_i (by decide) ?_
    | refine wpSide_i (by simp) ?_
    | refine wpSide_i (by constructor <;> decide) ?_
    | refine wpIdx_i (n := 0) rfl rfl rfl ?_
    | refine wpIdx_i (n := 1) rfl rfl rfl ?_
    | refine wpIdx_i (n := 2) rfl rfl rfl ?_
    | refine wpIdx_i (n := 3) rfl rfl rfl ?_
    | refine wpIdx_i (n := 4) rfl rfl rfl ?_
    | refine wpIdx_i (n := 5) rfl rfl rfl ?_
    | refine wpIdx_i (n := 6) rfl rfl rfl ?_
    | refine wpIdx_i (n := 7) rfl rfl rfl ?_
    | refine wpIdx_i (n := 8) rfl rfl rfl ?_
    | refine wpIdx_i (n := 9) rfl rfl rfl ?_
    | refine wpIdx_i (n := 10) rfl rfl rfl ?_
    | refine wpIdx_i (n := 11) rfl rfl rfl ?_
    | refine wpIdx_i (n := 12) rfl rfl rfl ?_
    | refine wpIdx_i (n := 13) rfl rfl rfl ?_
    | (apply wpCall_r; apply pcall_intro func76 rfl rfl)
    | (apply wpCall_r; apply pcall_intro func94 rfl rfl)
    | (apply wpCall_r; apply pcall_intro func100 rfl rfl)
    | (apply wpCall_r; apply pcall_intro func130 rfl rfl)
    | (apply wpCall_r; apply pcall_intro func168 rfl rfl)
    | (apply wpCall_r; apply pcall_intro func197 rfl rfl)
    | (apply wpCall_r; apply pcall_intro func198 rfl rfl)
    | (apply wpCall_r; apply pcall_intro func199 rfl rfl)
    | (apply wpCall_r; apply pcall_intro func200 rfl rfl)
    | (apply wpCall_r; apply pcall_intro func201 rfl rfl)
    | (apply wpCall_r; apply pcall_intro func202 rfl rfl)
    | (apply wpCall_r; apply pcall_intro func203 rfl rfl)
    | (apply wpCall_r; apply pcall_intro func204 rfl rfl)
    | (apply wpCall_r; apply pcall_intro func205 rfl rfl)
    | (apply wpCall_r; apply pcall_intro func206 rfl rfl)
    | (apply wpCall_r; apply pcall_intro func208 rfl rfl)
    | (apply wpCall_r; apply pcall_intro func209 rfl rfl)
    | (apply wpCall_r; apply pcall_intro func214 rfl rfl)
    | (apply wpCall_r; apply pcall_intro func216 rfl rfl)
    | (apply wpCall_r; apply pcall_intro func247 rfl rfl)
    | (apply wpCall_r; apply pcall_intro func248 rfl rfl)
    | (apply wpCall_r; apply pcall_intro func249 rfl rfl)
    | (apply wpCall_r; apply pcall_intro func250 rfl rfl)
    | (apply wpCall_r; apply pcall_intro func251 rfl rfl)
    | (apply wpCall_r; apply pcall_intro func252 rfl rfl)
    | (apply wpCall_r; apply pcall_intro func314 rfl rfl)
    | (apply wpCall_r; apply pcall_intro func315 rfl rfl)
    | (apply wpCall_r; apply pcall_intro func363 rfl rfl)
    | (apply wpCall_r; apply pcall_intro func365 rfl rfl)
    | (apply wpCall_r; apply pcall_intro func366 rfl rfl)
    | (apply wpCall_r; apply pcall_intro func367 rfl rfl)
    | (apply wpCall_r; apply pcall_intro func368 rfl rfl)
    | (apply wpCall_r; apply pcall_intro func369 rfl rfl)
    | (apply wpCall_r; apply pcall_intro func370 rfl rfl)
    | (apply wpCall_r; apply pcall_intro func384 rfl rfl)
    | (apply wpCall_r; apply pcall_intro func385 rfl rfl)
    | (apply wpCall_r; apply pcall_intro func386 rfl rfl)
    | (apply wpCall_r; apply pcall_intro func387 rfl rfl)
    | (apply wpCall_r; apply pcall_intro func388 rfl rfl)
    | (apply wpCall_r; apply pcall_intro func389 rfl rfl)
    | (apply wpCall_r; apply pcall_intro func390 rfl rfl)
    | (apply wpCall_r; apply pcall_intro func391 rfl rfl)
    | (apply wpCall_r; apply pcall_intro func392 rfl rfl)
    | (apply wpCall_r; apply pcall_intro func447 rfl rfl)
    | (apply wpCall_r; apply pcall_intro func481 rfl rfl)
    | (apply wpCall_r; apply pcall_intro func482 rfl rfl)
    | (apply wpCall_r; apply pcall_intro func488 rfl rfl)
    | (apply wpCall_r; apply pcall_intro func489 rfl rfl)
    | (apply wpCall_r; apply pcall_intro func490 rfl rfl)
    | (apply wpCall_r; apply pcall_intro func564 rfl rfl)
    | (apply wpCall_r; apply pcall_intro func565 rfl rfl)
    | refine ⟨rfl, ?_⟩
    | refine ⟨_, rfl, ?_⟩
    | exact rfl)
set_option maxRecDepth 100000 in
theorem al97e : PCX I 97 [.w (.agg [.p (.v (vI 0)), .p (.sl [])])] [] (.ret (AV.bool true)) [] := by
  refine pcall_intro func97 rfl rfl ?_
  repeat' ((conv => whnf) <;> first
    | refine wpB_t rfl ?_
    | refine wpB_f rfl ?_
    | refine wpLen_i ?_
    | refine wpN_e (n := 0) rfl ?_
    | refine wpN_e (n := 1) rfl ?_
    | refine wpN_e (n := 2) rfl ?_
    | refine wpN_e (n := 3) rfl ?_
    | refine wpN_e (n := 4) rfl ?_
    | refine wpN_e (n := 5) rfl ?_
    | refine wpN_e (n := 6) rfl ?_
    | refine wpN_e (n := 7) rfl ?_
    | refine wpN_e (n := 8) rfl ?_
    | refine wpN_e (n := 9) rfl ?_
    | refine wpN_e (n := 10) rfl ?_
    | refine wpN_e (n := 11) rfl ?_
    | refine wpN_e (n := 12) rfl ?_
    | refine wpN_e (n := 13) rfl ?_
    | refine wpN_e (n := -1) rfl ?_
    | refine wpN_e (n := 100) rfl ?_
    | refine wpN_e (n := 1099511627776) rfl ?_
    | refine loop_unroll' ?_
    | refine wpRegD_i rfl ?_
    | refine wpSide_i ⟨rfl, trivial⟩ ?_
    | refine wpSide_i trivial ?_
    | refine wpSide_i (by decide) ?_
    | refine wpSide_i (by simp) ?_
    | refine wpSide_i (by constructor <;> decide) ?_
    | refine wpIdx_i (n := 0) rfl rfl rfl ?_
    | refine wpIdx_i (n := 1) rfl rfl rfl ?_
    | refine wpIdx_i (n := 2) rfl rfl rfl ?_
    | refine wpIdx_i (n := 3) rfl rfl rfl ?_
    | refine wpIdx_i (n := 4) rfl rfl rfl ?_
    | refine wpIdx_i (n := 5) rfl rfl rfl ?_
    | refine wpIdx_i (n := 6) rfl rfl rfl ?_
    | refine wpIdx_i (n := 7) rfl rfl rfl ?_
    | refine wpIdx_i (n := 8) rfl rfl rfl ?_
    | refine wpIdx_i (n := 9) rfl rfl rfl ?_
    | refine wpIdx_i (n := 10) rfl rfl rfl ?_
    | refine wpIdx_i (n := 11) rfl rfl rfl ?_
    | refine wpIdx_i (n := 12) rfl rfl rfl ?_
    | refine wpIdx_i (n := 13) rfl rfl rfl ?_
    | (apply wpCall_r; apply pcall_intro func194 rfl rfl)
    | (apply wpCall_r; apply pcall_intro func210 rfl rfl)
    | (apply wpCall_r; apply pcall_intro func211 rfl rfl)
    | (apply wpCall_r; apply pcall_intro func212 rfl rfl)
    | (apply wpCall_r; apply pcall_intro func213 rfl rfl)
    | (apply wpCall_r; apply pcall_intro func375 rfl rfl)
    | (apply wpCall_r; apply pcall_intro func376 rfl rfl)
    | refine ⟨rfl, ?_⟩
    | refine ⟨_, rfl, ?_⟩
    | exact rfl)
end Go.Fw
namespace Go.Fw
open Go Go.Proofs.Tryz
variable {I : CallRel}
/-! slices.Clone (PRINTED by mkT1.py) -/
set_option maxRecDepth 100000 in
theorem clone188 (xs : List (List Value)) (hk : ∀ es ∈ xs, es.length = 21) (hn : xs.length ≤ 1048576) :
    PCX I 188 [.one (.p (.sl xs))] [] (.ret (.one (.ref 0 xs.length))) [.vec 60 xs false] := by
  refine pcall_own func188 rfl rfl ?_
  conv => whnf
  refine ⟨fun b hb => ?_⟩
  cases b with
  | true =>
    have hx : xs = [] := by simpa using hb rfl
    subst hx
    conv => whnf
    refine ⟨_, mkS [(2, .one (.ref 0 0))] [(0, .vec 60 [] false)] 1 _ 0, rfl, le_mkS ⟨.inr ⟨0, rfl, newT rfl rfl rfl (Nat.zero_lt_succ _)⟩, trivial⟩ ⟨.inr ⟨rfl, _, rfl, Nat.zero_lt_succ _⟩, trivial⟩ rfl rfl, ?_⟩
    exact ⟨⟨[(0, 0)], _, rfl, Nat.zero_le _, trivial, ⟨⟨_, _, rfl, rfl, rfl, Nat.zero_le _, trivial⟩, trivial⟩, ⟨⟨trivial, rfl⟩, trivial⟩, rfl, rfl⟩⟩
  | false =>
    conv => whnf
    refine wpSide_i ⟨hk, rfl, ?_⟩ ?_
    · refine ⟨(?_ : (0 + _) * 184 ≤ _), (?_ : 0 + _ ≤ _)⟩ <;> omega
    conv => whnf
    refine ⟨_, mkS [(2, .one (.ref 0 (0 + xs.length)))] [(0, .vec 60 ([] ++ xs) false)] 1 _ 0, rfl, le_mkS ⟨.inl ⟨rfl, rfl⟩, trivial⟩ ⟨.inl ⟨rfl, rfl⟩, trivial⟩ rfl rfl, ?_⟩
    exact ⟨⟨[(0, 0 + xs.length)], _, rfl, Nat.zero_le _, trivial, ⟨⟨_, _, rfl, rfl, by simp, by show _ ≤ _; omega, trivial⟩, trivial⟩, ⟨⟨trivial, rfl⟩, trivial⟩, rfl, by simp [tupOf]⟩⟩
set_option maxRecDepth 100000 in
theorem clone285 (xs : List (List Value)) (hk : ∀ es ∈ xs, es.length = 1) (hn : xs.length ≤ 1048576) :
    PCX I 285 [.one (.p (.sl xs))] [] (.ret (.one (.ref 0 xs.length))) [.vec 9 xs false] := by
  refine pcall_own func285 rfl rfl ?_
  conv => whnf
  refine ⟨fun b hb => ?_⟩
  cases b with
  | true =>
    have hx : xs = [] := by simpa using hb rfl
    subst hx
    conv => whnf
    refine ⟨_, mkS [(2, .one (.ref 0 0))] [(0, .vec 9 [] false)] 1 _ 0, rfl, le_mkS ⟨.inr ⟨0, rfl, newT rfl rfl rfl (Nat.zero_lt_succ _)⟩, trivial⟩ ⟨.inr ⟨rfl, _, rfl, Nat.zero_lt_succ _⟩, trivial⟩ rfl rfl, ?_⟩
    exact ⟨⟨[(0, 0)], _, rfl, Nat.zero_le _, trivial, ⟨⟨_, _, rfl, rfl, rfl, Nat.zero_le _, trivial⟩, trivial⟩, ⟨⟨trivial, rfl⟩, trivial⟩, rfl, rfl⟩⟩
  | false =>
    conv => whnf
    refine wpSide_i ⟨hk, rfl, ?_⟩ ?_
    · refine ⟨(?_ : (0 + _) * 16 ≤ _), (?_ : 0 + _ ≤ _)⟩ <;> omega
    conv => whnf
    refine ⟨_, mkS [(2, .one (.ref 0 (0 + xs.length)))] [(0, .vec 9 ([] ++ xs) false)] 1 _ 0, rfl, le_mkS ⟨.inl ⟨rfl, rfl⟩, trivial⟩ ⟨.inl ⟨rfl, rfl⟩, trivial⟩ rfl rfl, ?_⟩
    exact ⟨⟨[(0, 0 + xs.length)], _, rfl, Nat.zero_le _, trivial, ⟨⟨_, _, rfl, rfl, by simp, by show _ ≤ _; omega, trivial⟩, trivial⟩, ⟨⟨trivial, rfl⟩, trivial⟩, rfl, by simp [tupOf]⟩⟩
set_option maxRecDepth 100000 in
theorem clone316 (xs : List (List Value)) (hk : ∀ es ∈ xs, es.length = 4) (hn : xs.length ≤ 1048576) :
    PCX I 316 [.one (.p (.sl xs))] [] (.ret (.one (.ref 0 xs.length))) [.vec 165 xs false] := by
  refine pcall_own func316 rfl rfl ?_
  conv => whnf
  refine ⟨fun b hb => ?_⟩
  cases b with
  | true =>
    have hx : xs = [] := by simpa using hb rfl
    subst hx
    conv => whnf
    refine ⟨_, mkS [(2, .one (.ref 0 0))] [(0, .vec 165 [] false)] 1 _ 0, rfl, le_mkS ⟨.inr ⟨0, rfl, newT rfl rfl rfl (Nat.zero_lt_succ _)⟩, trivial⟩ ⟨.inr ⟨rfl, _, rfl, Nat.zero_lt_succ _⟩, trivial⟩ rfl rfl, ?_⟩
    exact ⟨⟨[(0, 0)], _, rfl, Nat.zero_le _, trivial, ⟨⟨_, _, rfl, rfl, rfl, Nat.zero_le _, trivial⟩, trivial⟩, ⟨⟨trivial, rfl⟩, trivial⟩, rfl, rfl⟩⟩
  | false =>
    conv => whnf
    refine wpSide_i ⟨hk, rfl, ?_⟩ ?_
    · refine ⟨(?_ : (0 + _) * 40 ≤ _), (?_ : 0 + _ ≤ _)⟩ <;> omega
    conv => whnf
    refine ⟨_, mkS [(2, .one (.ref 0 (0 + xs.length)))] [(0, .vec 165 ([] ++ xs) false)] 1 _ 0, rfl, le_mkS ⟨.inl ⟨rfl, rfl⟩, trivial⟩ ⟨.inl ⟨rfl, rfl⟩, trivial⟩ rfl rfl, ?_⟩
    exact ⟨⟨[(0, 0 + xs.length)], _, rfl, Nat.zero_le _, trivial, ⟨⟨_, _, rfl, rfl, by simp, by show _ ≤ _; omega, trivial⟩, trivial⟩, ⟨⟨trivial, rfl⟩, trivial⟩, rfl, by simp [tupOf]⟩⟩
set_option maxRecDepth 100000 in
theorem clone195 (xs : List (List Value)) (hk : ∀ es ∈ xs, es.length = 4) (hn : xs.length ≤ 1048576) :
    PCX I 195 [.one (.p (.sl xs))] [] (.ret (.one (.ref 0 xs.length))) [.vec 72 xs false] := by
  refine pcall_own func195 rfl rfl ?_
  conv => whnf
  refine ⟨fun b hb => ?_⟩
  cases b with
  | true =>
    have hx : xs = [] := by simpa using hb rfl
    subst hx
    conv => whnf
    refine ⟨_, mkS [(2, .one (.ref 0 0))] [(0, .vec 72 [] false)] 1 _ 0, rfl, le_mkS ⟨.inr ⟨0, rfl, newT rfl rfl rfl (Nat.zero_lt_succ _)⟩, trivial⟩ ⟨.inr ⟨rfl, _, rfl, Nat.zero_lt_succ _⟩, trivial⟩ rfl rfl, ?_⟩
    exact ⟨⟨[(0, 0)], _, rfl, Nat.zero_le _, trivial, ⟨⟨_, _, rfl, rfl, rfl, Nat.zero_le _, trivial⟩, trivial⟩, ⟨⟨trivial, rfl⟩, trivial⟩, rfl, rfl⟩⟩
  | false =>
    conv => whnf
    refine wpSide_i ⟨hk, rfl, ?_⟩ ?_
    · refine ⟨(?_ : (0 + _) * 32 ≤ _), (?_ : 0 + _ ≤ _)⟩ <;> omega
    conv => whnf
    refine ⟨_, mkS [(2, .one (.ref 0 (0 + xs.length)))] [(0, .vec 72 ([] ++ xs) false)] 1 _ 0, rfl, le_mkS ⟨.inl ⟨rfl, rfl⟩, trivial⟩ ⟨.inl ⟨rfl, rfl⟩, trivial⟩ rfl rfl, ?_⟩
    exact ⟨⟨[(0, 0 + xs.length)], _, rfl, Nat.zero_le _, trivial, ⟨⟨_, _, rfl, rfl, by simp, by show _ ≤ _; omega, trivial⟩, trivial⟩, ⟨⟨trivial, rfl⟩, trivial⟩, rfl, by simp [tupOf]⟩⟩
set_option maxRecDepth 100000 in
theorem clone460 (xs : List (List Value)) (hk : ∀ es ∈ xs, es.length = 6) (hn : xs.length ≤ 1048576) :
    PCX I 460 [.one (.p (.sl xs))] [] (.ret (.one (.ref 0 xs.length))) [.vec 62 xs false] := by
  refine pcall_own func460 rfl rfl ?_
  conv => whnf
  refine ⟨fun b hb => ?_⟩
  cases b with
  | true =>
    have hx : xs = [] := by simpa using hb rfl
    subst hx
    conv => whnf
    refine ⟨_, mkS [(2, .one (.ref 0 0))] [(0, .vec 62 [] false)] 1 _ 0, rfl, le_mkS ⟨.inr ⟨0, rfl, newT rfl rfl rfl (Nat.zero_lt_succ _)⟩, trivial⟩ ⟨.inr ⟨rfl, _, rfl, Nat.zero_lt_succ _⟩, trivial⟩ rfl rfl, ?_⟩
    exact ⟨⟨[(0, 0)], _, rfl, Nat.zero_le _, trivial, ⟨⟨_, _, rfl, rfl, rfl, Nat.zero_le _, trivial⟩, trivial⟩, ⟨⟨trivial, rfl⟩, trivial⟩, rfl, rfl⟩⟩
  | false =>
    conv => whnf
    refine wpSide_i ⟨hk, rfl, ?_⟩ ?_
    · refine ⟨(?_ : (0 + _) * 56 ≤ _), (?_ : 0 + _ ≤ _)⟩ <;> omega
    conv => whnf
    refine ⟨_, mkS [(2, .one (.ref 0 (0 + xs.length)))] [(0, .vec 62 ([] ++ xs) false)] 1 _ 0, rfl, le_mkS ⟨.inl ⟨rfl, rfl⟩, trivial⟩ ⟨.inl ⟨rfl, rfl⟩, trivial⟩ rfl rfl, ?_⟩
    exact ⟨⟨[(0, 0 + xs.length)], _, rfl, Nat.zero_le _, trivial, ⟨⟨_, _, rfl, rfl, by simp, by show _ ≤ _; omega, trivial⟩, trivial⟩, ⟨⟨trivial, rfl⟩, trivial⟩, rfl, by simp [tupOf]⟩⟩
set_option maxRecDepth 100000 in
theorem clone360 (xs : List (List Value)) (hk : ∀ es ∈ xs, es.length = 5) (hn : xs.length ≤ 1048576) :
    PCX I 360 [.one (.p (.sl xs))] [] (.ret (.one (.ref 0 xs.length))) [.vec 70 xs false] := by
  refine pcall_own func360 rfl rfl ?_
  conv => whnf
  refine ⟨fun b hb => ?_⟩
  cases b with
  | true =>
    have hx : xs = [] := by simpa using hb rfl
    subst hx
    conv => whnf
    refine ⟨_, mkS [(2, .one (.ref 0 0))] [(0, .vec 70 [] false)] 1 _ 0, rfl, le_mkS ⟨.inr ⟨0, rfl, newT rfl rfl rfl (Nat.zero_lt_succ _)⟩, trivial⟩ ⟨.inr ⟨rfl, _, rfl, Nat.zero_lt_succ _⟩, trivial⟩ rfl rfl, ?_⟩
    exact ⟨⟨[(0, 0)], _, rfl, Nat.zero_le _, trivial, ⟨⟨_, _, rfl, rfl, rfl, Nat.zero_le _, trivial⟩, trivial⟩, ⟨⟨trivial, rfl⟩, trivial⟩, rfl, rfl⟩⟩
  | false =>
    conv => whnf
    refine wpSide_i ⟨hk, rfl, ?_⟩ ?_
    · refine ⟨(?_ : (0 + _) * 56 ≤ _), (?_ : 0 + _ ≤ _)⟩ <;> omega
    conv => whnf
    refine ⟨_, mkS [(2, .one (.ref 0 (0 + xs.length)))] [(0, .vec 70 ([] ++ xs) false)] 1 _ 0, rfl, le_mkS ⟨.inl ⟨rfl, rfl⟩, trivial⟩ ⟨.inl ⟨rfl, rfl⟩, trivial⟩ rfl rfl, ?_⟩
    exact ⟨⟨[(0, 0 + xs.length)], _, rfl, Nat.zero_le _, trivial, ⟨⟨_, _, rfl, rfl, by simp, by show _ ≤ _; omega, trivial⟩, trivial⟩, ⟨⟨trivial, rfl⟩, trivial⟩, rfl, by simp [tupOf]⟩⟩
end Go.Fw
namespace Go.Fw
open Go Go.Proofs.Tryz
variable {I : CallRel}
set_option maxRecDepth 100000 in
theorem al169e : PCX I 169 [.one (.p (.sl []))] [] (.ret (.tup [.one (.p (.sl [])), .one (.p (.v (vI 0)))])) [] := by
  refine pcall_intro func169 rfl rfl ?_
  repeat' ((conv => whnf) <;> first
    | refine wpB_t rfl ?_
    | refine wpB_f rfl ?_
    | refine wpLen_i ?_
    | refine wpN_e (n := 0) rfl ?_
    | refine wpN_e (n := 1) rfl ?_
    | refine wpN_e (n := 2) rfl ?_
    | refine wpN_e (n := 3) rfl ?_
    | refine wpN_e (n := 4) rfl ?_
    | refine wpN_e (n := 5) rfl ?_
    | refine wpN_e (n := 6) rfl ?_
    | refine wpN_e (n := 7) rfl ?_
    | refine wpN_e (n := 8) rfl ?_
    | refine wpN_e (n := 9) rfl ?_
    | refine wpN_e (n := 10) rfl ?_
    | refine wpN_e (n := 11) rfl ?_
    | refine wpN_e (n := 12) rfl ?_
    | refine wpN_e (n := 13) rfl ?_
    | refine wpN_e (n := -1) rfl ?_
    | refine wpN_e (n := 100) rfl ?_
    | refine wpN_e (n := 1099511627776) rfl ?_
    | refine loop_unroll' ?_
    | refine wpRegD_i rfl ?_
    | refine wpSide_i ⟨rfl, trivial⟩ ?_
    | refine wpSide_i trivial ?_
    | refine wpSide_i (by decide) ?_
    | refine wpSide_i (by simp) ?_
    | refine wpSide_i (by constructor <;> decide) ?_
    | refine wpIdx_i (n := 0) rfl rfl rfl ?_
    | refine wpIdx_i (n := 1) rfl rfl rfl ?_
    | refine wpIdx_i (n := 2) rfl rfl rfl ?_
    | refine wpIdx_i (n := 3) rfl rfl rfl ?_
    | refine wpIdx_i (n := 4) rfl rfl rfl ?_
    | refine wpIdx_i (n := 5) rfl rfl rfl ?_
    | refine wpIdx_i (n := 6) rfl rfl rfl ?_
    | refine wpIdx_i (n := 7) rfl rfl rfl ?_
    | refine wpIdx_i (n := 8) rfl rfl rfl ?_
    | refine wpIdx_i (n := 9) rfl rfl rfl ?_
    | refine wpIdx_i (n := 10) rfl rfl rfl ?_
    | refine wpIdx_i (n := 11) rfl rfl rfl ?_
    | refine wpIdx_i (n := 12) rfl rfl rfl ?_
    | refine wpIdx_i (n := 13) rfl rfl rfl ?_
    | (apply wpCall_r; apply pcall_intro func76 rfl rfl)
    | (apply wpCall_r; apply pcall_intro func94 rfl rfl)
    | (apply wpCall_r; apply pcall_intro func100 rfl rfl)
    | (apply wpCall_r; apply pcall_intro func168 rfl rfl)
    | (apply wpCall_r; apply pcall_intro func197 rfl rfl)
    | (apply wpCall_r; apply pcall_intro func198 rfl rfl)
    | (apply wpCall_r; apply pcall_intro func199 rfl rfl)
    | (apply wpCall_r; apply pcall_intro func200 rfl rfl)
    | (apply wpCall_r; apply pcall_intro func201 rfl rfl)
    | (apply wpCall_r; apply pcall_intro func202 rfl rfl)
    | (apply wpCall_r; apply pcall_intro func203 rfl rfl)
    | (apply wpCall_r; apply pcall_intro func204 rfl rfl)
    | (apply wpCall_r; apply pcall_intro func205 rfl rfl)
    | (apply wpCall_r; apply pcall_intro func206 rfl rfl)
    | (apply wpCall_r; apply pcall_intro func214 rfl rfl)
    | (apply wpCall_r; apply pcall_intro func248 rfl rfl)
    | (apply wpCall_r; apply pcall_intro func311 rfl rfl)
    | (apply wpCall_r; apply pcall_intro func313 rfl rfl)
    | (apply wpCall_r; apply pcall_intro func314 rfl rfl)
    | (apply wpCall_r; apply pcall_intro func315 rfl rfl)
    | (apply wpCall_r; apply pcall_intro func316 rfl rfl)
    | (apply wpCall_r; apply pcall_intro func317 rfl rfl)
    | (apply wpCall_r; apply pcall_intro func365 rfl rfl)
    | (apply wpCall_r; apply pcall_intro func366 rfl rfl)
    | (apply wpCall_r; apply pcall_intro func367 rfl rfl)
    | (apply wpCall_r; apply pcall_intro func368 rfl rfl)
    | (apply wpCall_r; apply pcall_intro func369 rfl rfl)
    | (apply wpCall_r; apply pcall_intro func370 rfl rfl)
    | (apply wpCall_r; apply pcall_intro func384 rfl rfl)
    | (apply wpCall_r; apply pcall_intro func444 rfl rfl)
    | (apply wpCall_r; apply pcall_intro func445 rfl rfl)
    | (apply wpCall_r; apply pcall_intro func446 rfl rfl)
    | (apply wpCall_r; apply pcall_intro func447 rfl rfl)
    | (apply wpCall_r; apply pcall_intro func448 rfl rfl)
    | (apply wpCall_r; apply pcall_intro func449 rfl rfl)
    | (apply wpCall_r; apply pcall_intro func481 rfl rfl)
    | (apply wpCall_r; apply pcall_intro func482 rfl rfl)
    | (apply wpCall_r; apply pcall_intro func488 rfl rfl)
    | (apply wpCall_r; apply pcall_intro func489 rfl rfl)
    | (apply wpCall_r; apply pcall_intro func490 rfl rfl)
    | (apply wpCall_r; apply pcall_intro func521 rfl rfl)
    | (apply wpCall_r; apply pcall_intro func522 rfl rfl)
    | (apply wpCall_r; apply pcall_intro func523 rfl rfl)
    | (apply wpCall_r; apply pcall_intro func524 rfl rfl)
    | (apply wpCall_r; apply pcall_intro func525 rfl rfl)
    | (apply wpCall_r; apply pcall_intro func526 rfl rfl)
    | (apply wpCall_r; apply pcall_intro func527 rfl rfl)
    | (apply wpCall_r; apply pcall_intro func528 rfl rfl)
    | (apply wpCall_r; apply pcall_intro func529 rfl rfl)
    | (apply wpCall_r; apply pcall_intro func530 rfl rfl)
    | (apply wpCall_r; apply pcall_intro func531 rfl rfl)
    | (apply wpCall_r; apply pcall_intro func564 rfl rfl)
    | (apply wpCall_r; apply pcall_intro func565 rfl rfl)
    | (apply wpCall_r; apply pcall_intro func572 rfl rfl)
    | (apply wpCall_r; apply pcall_intro func573 rfl rfl)
    | (apply wpCall_r; apply pcall_intro func574 rfl rfl)
    | (apply wpCall_r; apply pcall_intro func575 rfl rfl)
    | (apply wpCall_r; apply pcall_intro func576 rfl rfl)
    | (apply wpCall_r; apply pcall_intro func596 rfl rfl)
    | refine ⟨⟨.ret _, _, clone316 _ (by simp) (by simp), ?_⟩⟩
    | refine ⟨⟨.ret _, _, clone188 _ (by simp) (by simp), ?_⟩⟩
    | refine ⟨⟨.ret _, _, clone285 _ (by simp) (by simp), ?_⟩⟩
    | refine ⟨⟨.ret _, _, clone195 _ (by simp) (by simp), ?_⟩⟩
    | refine ⟨⟨.ret _, _, clone460 _ (by simp) (by simp), ?_⟩⟩
    | refine ⟨⟨.ret _, _, clone360 _ (by simp) (by simp), ?_⟩⟩
    | refine ⟨rfl, ?_⟩
    | refine ⟨_, rfl, ?_⟩
    | exact rfl)
end Go.Fw
namespace Go.Fw
open Go Go.Proofs.Tryz
variable {I : CallRel}
set_option maxRecDepth 100000 in
theorem al77e : PCX I 77 [.one (.p (.sl []))] [] (.ret (.tup [.one (.p (.sl [])), .one (.p (.v (vI 0)))])) [] := by
  refine pcall_intro func77 rfl rfl ?_
  repeat' ((conv => whnf) <;> first
    | refine wpB_t rfl ?_
    | refine wpB_f rfl ?_
    | refine wpLen_i ?_
    | refine wpN_e (n := 0) rfl ?_
    | refine wpN_e (n := 1) rfl ?_
    | refine wpN_e (n := 2) rfl ?_
    | refine wpN_e (n := 3) rfl ?_
    | refine wpN_e (n := 4) rfl ?_
    | refine wpN_e (n := 5) rfl ?_
    | refine wpN_e (n := 6) rfl ?_
    | refine wpN_e (n := 7) rfl ?_
    | refine wpN_e (n := 8) rfl ?_
    | refine wpN_e (n := 9) rfl ?_
    | refine wpN_e (n := 10) rfl ?_
    | refine wpN_e (n := 11) rfl ?_
    | refine wpN_e (n := 12) rfl ?_
    | refine wpN_e (n := 13) rfl ?_
    | refine wpN_e (n := -1) rfl ?_
    | refine wpN_e (n := 100) rfl ?_
    | refine wpN_e (n := 1099511627776) rfl ?_
    | refine loop_unroll' ?_
    | refine wpRegD_i rfl ?_
    | refine wpSide_i ⟨rfl, trivial⟩ ?_
    | refine wpSide_i trivial ?_
    | refine wpSide_i (by decide) ?_
    | refine wpSide_i (by simp) ?_
    | refine wpSide_i (by constructor <;> decide) ?_
    | refine wpIdx_i (n := 0) rfl rfl rfl ?_
    | refine wpIdx_i (n := 1) rfl rfl rfl ?_
    | refine wpIdx_i (n := 2) rfl rfl rfl ?_
    | refine wpIdx_i (n := 3) rfl rfl rfl ?_
    | refine wpIdx_i (n := 4) rfl rfl rfl ?_
    | refine wpIdx_i (n := 5) rfl rfl rfl ?_
    | refine wpIdx_i (n := 6) rfl rfl rfl ?_
    | refine wpIdx_i (n := 7) rfl rfl rfl ?_
    | refine wpIdx_i (n := 8) rfl rfl rfl ?_
    | refine wpIdx_i (n := 9) rfl rfl rfl ?_
    | refine wpIdx_i (n := 10) rfl rfl rfl ?_
    | refine wpIdx_i (n := 11) rfl rfl rfl ?_
    | refine wpIdx_i (n := 12) rfl rfl rfl ?_
    | refine wpIdx_i (n := 13) rfl rfl rfl ?_
    | refine wpCall_r al96e ?_
    | refine wpCall_r al169e ?_
    | refine ⟨rfl, ?_⟩
    | refine ⟨_, rfl, ?_⟩
    | exact rfl)
set_option maxRecDepth 100000 in
theorem al78e : PCX I 78 [.one (.p (.sl []))] [] (.ret (.tup [.one (.p (.sl [])), .one (.p (.v (vI 0)))])) [] := by
  refine pcall_intro func78 rfl rfl ?_
  repeat' ((conv => whnf) <;> first
    | refine wpB_t rfl ?_
    | refine wpB_f rfl ?_
    | refine wpLen_i ?_
    | refine wpN_e (n := 0) rfl ?_
    | refine wpN_e (n := 1) rfl ?_
    | refine wpN_e (n := 2) rfl ?_
    | refine wpN_e (n := 3) rfl ?_
    | refine wpN_e (n := 4) rfl ?_
    | refine wpN_e (n := 5) rfl ?_
    | refine wpN_e (n := 6) rfl ?_
    | refine wpN_e (n := 7) rfl ?_
    | refine wpN_e (n := 8) rfl ?_
    | refine wpN_e (n := 9) rfl ?_
    | refine wpN_e (n := 10) rfl ?_
    | refine wpN_e (n := 11) rfl ?_
    | refine wpN_e (n := 12) rfl ?_
    | refine wpN_e (n := 13) rfl ?_
    | refine wpN_e (n := -1) rfl ?_
    | refine wpN_e (n := 100) rfl ?_
    | refine wpN_e (n := 1099511627776) rfl ?_
    | refine loop_unroll' ?_
    | refine wpRegD_i rfl ?_
    | refine wpSide_i ⟨rfl, trivial⟩ ?_
    | refine wpSide_i trivial ?_
    | refine wpSide_i (by decide) ?_
    | refine wpSide_i (by simp) ?_
    | refine wpSide_i (by constructor <;> decide) ?_
    | refine wpIdx_i (n := 0) rfl rfl rfl ?_
    | refine wpIdx_i (n := 1) rfl rfl rfl ?_
    | refine wpIdx_i (n := 2) rfl rfl rfl ?_
    | refine wpIdx_i (n := 3) rfl rfl rfl ?_
    | refine wpIdx_i (n := 4) rfl rfl rfl ?_
    | refine wpIdx_i (n := 5) rfl rfl rfl ?_
    | refine wpIdx_i (n := 6) rfl rfl rfl ?_
    | refine wpIdx_i (n := 7) rfl rfl rfl ?_
    | refine wpIdx_i (n := 8) rfl rfl rfl ?_
    | refine wpIdx_i (n := 9) rfl rfl rfl ?_
    | refine wpIdx_i (n := 10) rfl rfl rfl ?_
    | refine wpIdx_i (n := 11) rfl rfl rfl ?_
    | refine wpIdx_i (n := 12) rfl rfl rfl ?_
    | refine wpIdx_i (n := 13) rfl rfl rfl ?_
    | refine wpCall_r al96e ?_
    | refine ⟨rfl, ?_⟩
    | refine ⟨_, rfl, ?_⟩
    | exact rfl)
set_option maxRecDepth 100000 in
theorem al27e : PCX I 27 [.w (.agg [.p (.sl []), .p (.sl []), .p (.sl []), .p (.sl []), .p (.sl []), .p (.sl []), .p (.v (vI 0)), .p (.sl []), .p (.v (vI 0)), .p (.v (vI 0))])] [] (.ret (AV.bool true)) [] := by
  refine pcall_intro func27 rfl rfl ?_
  repeat' ((conv => whnf) <;> first
    | refine wpB_t rfl ?_
    | refine wpB_f rfl ?_
    | refine wpLen_i ?_
    | refine wpN_e (n := 0) rfl ?_
    | refine wpN_e (n := 1) rfl ?_
    | refine wpN_e (n := 2) rfl ?_
    | refine wpN_e (n := 3) rfl ?_
    | refine wpN_e (n := 4) rfl ?_
    | refine wpN_e (n := 5) rfl ?_
    | refine wpN_e (n := 6) rfl ?_
    | refine wpN_e (n := 7) rfl ?_
    | refine wpN_e (n := 8) rfl ?_
    | refine wpN_e (n := 9) rfl ?_
    | refine wpN_e (n := 10) rfl ?_
    | refine wpN_e (n := 11) rfl ?_
    | refine wpN_e (n := 12) rfl ?_
    | refine wpN_e (n := 13) rfl ?_
    | refine wpN_e (n := -1) rfl ?_
    | refine wpN_e (n := 100) rfl ?_
    | refine wpN_e (n := 1099511627776) rfl ?_
    | refine loop_unroll' ?_
    | refine wpRegD_i rfl ?_
    | refine wpSide_i ⟨rfl, trivial⟩ ?_
    | refine wpSide_i trivial ?_
    | refine wpSide_i (by decide) ?_
    | refine wpSide_i (by simp) ?_
    | refine wpSide_i (by constructor <;> decide) ?_
    | refine wpIdx_i (n := 0) rfl rfl rfl ?_
    | refine wpIdx_i (n := 1) rfl rfl rfl ?_
    | refine wpIdx_i (n := 2) rfl rfl rfl ?_
    | refine wpIdx_i (n := 3) rfl rfl rfl ?_
    | refine wpIdx_i (n := 4) rfl rfl rfl ?_
    | refine wpIdx_i (n := 5) rfl rfl rfl ?_
    | refine wpIdx_i (n := 6) rfl rfl rfl ?_
    | refine wpIdx_i (n := 7) rfl rfl rfl ?_
    | refine wpIdx_i (n := 8) rfl rfl rfl ?_
    | refine wpIdx_i (n := 9) rfl rfl rfl ?_
    | refine wpIdx_i (n := 10) rfl rfl rfl ?_
    | refine wpIdx_i (n := 11) rfl rfl rfl ?_
    | refine wpIdx_i (n := 12) rfl rfl rfl ?_
    | refine wpIdx_i (n := 13) rfl rfl rfl ?_
    | refine wpCall_r al94e ?_
    | refine wpCall_r al95e ?_
    | refine wpCall_r al96e ?_
    | refine wpCall_r al97e ?_
    | refine wpCall_r al77e ?_
    | refine wpCall_r al78e ?_
    | (apply wpCall_r; apply pcall_intro func47 rfl rfl)
    | (apply wpCall_r; apply pcall_intro func76 rfl rfl)
    | (apply wpCall_r; apply pcall_intro func79 rfl rfl)
    | (apply wpCall_r; apply pcall_intro func98 rfl rfl)
    | (apply wpCall_r; apply pcall_intro func99 rfl rfl)
    | (apply wpCall_r; apply pcall_intro func100 rfl rfl)
    | (apply wpCall_r; apply pcall_intro func101 rfl rfl)
    | (apply wpCall_r; apply pcall_intro func102 rfl rfl)
    | (apply wpCall_r; apply pcall_intro func103 rfl rfl)
    | (apply wpCall_r; apply pcall_intro func104 rfl rfl)
    | (apply wpCall_r; apply pcall_intro func105 rfl rfl)
    | (apply wpCall_r; apply pcall_intro func130 rfl rfl)
    | (apply wpCall_r; apply pcall_intro func168 rfl rfl)
    | (apply wpCall_r; apply pcall_intro func172 rfl rfl)
    | (apply wpCall_r; apply pcall_intro func212 rfl rfl)
    | (apply wpCall_r; apply pcall_intro func213 rfl rfl)
    | (apply wpCall_r; apply pcall_intro func214 rfl rfl)
    | (apply wpCall_r; apply pcall_intro func215 rfl rfl)
    | (apply wpCall_r; apply pcall_intro func247 rfl rfl)
    | (apply wpCall_r; apply pcall_intro func248 rfl rfl)
    | (apply wpCall_r; apply pcall_intro func249 rfl rfl)
    | (apply wpCall_r; apply pcall_intro func250 rfl rfl)
    | (apply wpCall_r; apply pcall_intro func251 rfl rfl)
    | (apply wpCall_r; apply pcall_intro func252 rfl rfl)
    | (apply wpCall_r; apply pcall_intro func314 rfl rfl)
    | (apply wpCall_r; apply pcall_intro func315 rfl rfl)
    | (apply wpCall_r; apply pcall_intro func363 rfl rfl)
    | (apply wpCall_r; apply pcall_intro func375 rfl rfl)
    | (apply wpCall_r; apply pcall_intro func376 rfl rfl)
    | (apply wpCall_r; apply pcall_intro func384 rfl rfl)
    | (apply wpCall_r; apply pcall_intro func385 rfl rfl)
    | (apply wpCall_r; apply pcall_intro func386 rfl rfl)
    | (apply wpCall_r; apply pcall_intro func387 rfl rfl)
    | (apply wpCall_r; apply pcall_intro func388 rfl rfl)
    | (apply wpCall_r; apply pcall_intro func389 rfl rfl)
    | (apply wpCall_r; apply pcall_intro func390 rfl rfl)
    | (apply wpCall_r; apply pcall_intro func391 rfl rfl)
    | (apply wpCall_r; apply pcall_intro func392 rfl rfl)
    | (apply wpCall_r; apply pcall_intro func447 rfl rfl)
    | (apply wpCall_r; apply pcall_intro func488 rfl rfl)
    | (apply wpCall_r; apply pcall_intro func489 rfl rfl)
    | (apply wpCall_r; apply pcall_intro func490 rfl rfl)
    | (apply wpCall_r; apply pcall_intro func564 rfl rfl)
    | (apply wpCall_r; apply pcall_intro func565 rfl rfl)
    | refine ⟨rfl, ?_⟩
    | refine ⟨_, rfl, ?_⟩
    | exact rfl)
end Go.Fw
namespace Go.Fw
open Go Go.Proofs.Tryz
variable {I : CallRel}
structure Cmd where
  kind : Int
  sku : Str
  to : Str
  a : Int
  b : Int
  c : Int
  d : Int
  e : Int
  f : Int
  yes : Bool
def Cmd.v (c : Cmd) : List Value := [vI c.kind, vS c.sku, vS c.to, vI c.a, vI c.b, vI c.c, vI c.d, vI c.e, vI c.f, .bool c.yes]
set_option maxRecDepth 100000 in
theorem numbers109 (k : Int) (s t : Str) (a b c d e f : Int) (y : Bool) :
    PCX I 109 [.w (.agg [.p (.v (vI k)), .p (.v (vS s)), .p (.v (vS t)), .p (.v (vI a)), .p (.v (vI b)), .p (.v (vI c)), .p (.v (vI d)), .p (.v (vI e)), .p (.v (vI f)), .p (.v (.bool y))])] []
      (.ret (.one (.ref 0 6))) [.vec 3 [[vI a], [vI b], [vI c], [vI d], [vI e], [vI f]] false] := by
  refine pcall_own func109 rfl rfl ?_
  conv => whnf
  refine ⟨_, mkS [(2, .one (.ref 1 6))] [(1, .vec 3 [[vI a], [vI b], [vI c], [vI d], [vI e], [vI f]] false)] 2 _ 0, rfl, le_mkS ⟨.inl ⟨rfl, rfl⟩, trivial⟩ ⟨.inl ⟨rfl, rfl⟩, trivial⟩ rfl rfl, ?_⟩
  exact ⟨⟨[(1, 6)], _, rfl, Nat.zero_le _, trivial, ⟨⟨_, _, rfl, rfl, rfl, by decide, trivial⟩, trivial⟩, ⟨⟨trivial, rfl⟩, trivial⟩, rfl, rfl⟩⟩
end Go.Fw
namespace Go.Fw
open Go Go.Proofs.Tryz
variable {I : CallRel}
set_option maxRecDepth 100000 in
theorem al94c : PCX I 94 [.w (.agg [.p (.sl [[vS [99, 117, 112]]]), .p (.sl [])])] [] (.ret (AV.bool true)) [] := by
  refine pcall_intro func94 rfl rfl ?_
  repeat' ((conv => whnf) <;> first
    | refine wpB_t rfl ?_
    | refine wpB_f rfl ?_
    | refine wpLen_i ?_
    | refine wpN_e (n := 0) rfl ?_
    | refine wpN_e (n := 1) rfl ?_
    | refine wpN_e (n := 2) rfl ?_
    | refine wpN_e (n := 3) rfl ?_
    | refine wpN_e (n := 4) rfl ?_
    | refine wpN_e (n := 5) rfl ?_
    | refine wpN_e (n := 6) rfl ?_
    | refine wpN_e (n := 7) rfl ?_
    | refine wpN_e (n := 8) rfl ?_
    | refine wpN_e (n := 9) rfl ?_
    | refine wpN_e (n := 10) rfl ?_
    | refine wpN_e (n := 11) rfl ?_
    | refine wpN_e (n := 12) rfl ?_
    | refine wpN_e (n := 13) rfl ?_
    | refine wpN_e (n := -1) rfl ?_
    | refine wpN_e (n := 100) rfl ?_
    | refine wpN_e (n := 1099511627776) rfl ?_
    | refine loop_unroll' ?_
    | refine wpRegD_i rfl ?_
    | refine wpSide_i ⟨rfl, trivial⟩ ?_
    | refine wpSide_i trivial ?_
    | refine wpSide_i (by decide) ?_
    | refine wpSide_i (by simp) ?_
    | refine wpSide_i (by constructor <;> decide) ?_
    | refine wpIdx_i (n := 0) rfl rfl rfl ?_
    | refine wpIdx_i (n := 1) rfl rfl rfl ?_
    | refine wpIdx_i (n := 2) rfl rfl rfl ?_
    | refine wpIdx_i (n := 3) rfl rfl rfl ?_
    | refine wpIdx_i (n := 4) rfl rfl rfl ?_
    | refine wpIdx_i (n := 5) rfl rfl rfl ?_
    | refine wpIdx_i (n := 6) rfl rfl rfl ?_
    | refine wpIdx_i (n := 7) rfl rfl rfl ?_
    | refine wpIdx_i (n := 8) rfl rfl rfl ?_
    | refine wpIdx_i (n := 9) rfl rfl rfl ?_
    | refine wpIdx_i (n := 10) rfl rfl rfl ?_
    | refine wpIdx_i (n := 11) rfl rfl rfl ?_
    | refine wpIdx_i (n := 12) rfl rfl rfl ?_
    | refine wpIdx_i (n := 13) rfl rfl rfl ?_
    | (apply wpCall_r; apply pcall_intro func100 rfl rfl)
    | (apply wpCall_r; apply pcall_intro func197 rfl rfl)
    | (apply wpCall_r; apply pcall_intro func198 rfl rfl)
    | (apply wpCall_r; apply pcall_intro func199 rfl rfl)
    | (apply wpCall_r; apply pcall_intro func200 rfl rfl)
    | (apply wpCall_r; apply pcall_intro func201 rfl rfl)
    | (apply wpCall_r; apply pcall_intro func202 rfl rfl)
    | (apply wpCall_r; apply pcall_intro func203 rfl rfl)
    | (apply wpCall_r; apply pcall_intro func204 rfl rfl)
    | (apply wpCall_r; apply pcall_intro func205 rfl rfl)
    | (apply wpCall_r; apply pcall_intro func206 rfl rfl)
    | (apply wpCall_r; apply pcall_intro func214 rfl rfl)
    | (apply wpCall_r; apply pcall_intro func314 rfl rfl)
    | (apply wpCall_r; apply pcall_intro func315 rfl rfl)
    | (apply wpCall_r; apply pcall_intro func365 rfl rfl)
    | (apply wpCall_r; apply pcall_intro func366 rfl rfl)
    | (apply wpCall_r; apply pcall_intro func367 rfl rfl)
    | (apply wpCall_r; apply pcall_intro func368 rfl rfl)
    | (apply wpCall_r; apply pcall_intro func369 rfl rfl)
    | (apply wpCall_r; apply pcall_intro func370 rfl rfl)
    | (apply wpCall_r; apply pcall_intro func447 rfl rfl)
    | (apply wpCall_r; apply pcall_intro func481 rfl rfl)
    | (apply wpCall_r; apply pcall_intro func482 rfl rfl)
    | refine ⟨rfl, ?_⟩
    | refine ⟨_, rfl, ?_⟩
    | exact rfl)
set_option maxRecDepth 100000 in
theorem al120c : PCX I 120 [.str [99, 117, 112]] [] (.ret (AV.bool true)) [] := by
  refine pcall_intro func120 rfl rfl ?_
  repeat' ((conv => whnf) <;> first
    | refine wpB_t rfl ?_
    | refine wpB_f rfl ?_
    | refine wpLen_i ?_
    | refine wpN_e (n := 0) rfl ?_
    | refine wpN_e (n := 1) rfl ?_
    | refine wpN_e (n := 2) rfl ?_
    | refine wpN_e (n := 3) rfl ?_
    | refine wpN_e (n := 4) rfl ?_
    | refine wpN_e (n := 5) rfl ?_
    | refine wpN_e (n := 6) rfl ?_
    | refine wpN_e (n := 7) rfl ?_
    | refine wpN_e (n := 8) rfl ?_
    | refine wpN_e (n := 9) rfl ?_
    | refine wpN_e (n := 10) rfl ?_
    | refine wpN_e (n := 11) rfl ?_
    | refine wpN_e (n := 12) rfl ?_
    | refine wpN_e (n := 13) rfl ?_
    | refine wpN_e (n := -1) rfl ?_
    | refine wpN_e (n := 100) rfl ?_
    | refine wpN_e (n := 1099511627776) rfl ?_
    | refine loop_unroll' ?_
    | refine wpRegD_i rfl ?_
    | refine wpSide_i ⟨rfl, trivial⟩ ?_
    | refine wpSide_i trivial ?_
    | refine wpSide_i (by decide) ?_
    | refine wpSide_i (by simp) ?_
    | refine wpSide_i (by constructor <;> decide) ?_
    | refine wpIdx_i (n := 0) rfl rfl rfl ?_
    | refine wpIdx_i (n := 1) rfl rfl rfl ?_
    | refine wpIdx_i (n := 2) rfl rfl rfl ?_
    | refine wpIdx_i (n := 3) rfl rfl rfl ?_
    | refine wpIdx_i (n := 4) rfl rfl rfl ?_
    | refine wpIdx_i (n := 5) rfl rfl rfl ?_
    | refine wpIdx_i (n := 6) rfl rfl rfl ?_
    | refine wpIdx_i (n := 7) rfl rfl rfl ?_
    | refine wpIdx_i (n := 8) rfl rfl rfl ?_
    | refine wpIdx_i (n := 9) rfl rfl rfl ?_
    | refine wpIdx_i (n := 10) rfl rfl rfl ?_
    | refine wpIdx_i (n := 11) rfl rfl rfl ?_
    | refine wpIdx_i (n := 12) rfl rfl rfl ?_
    | refine wpIdx_i (n := 13) rfl rfl rfl ?_
    | refine wpCall_r al94c ?_
    | refine ⟨rfl, ?_⟩
    | refine ⟨_, rfl, ?_⟩
    | exact rfl)
set_option maxRecDepth 100000 in
theorem al118c : PCX I 118 [.val (.int .i32 115), .str [99, 117, 112], .one (.pv [.v (vS [115])] 0)] [] (.ret (AV.bool true)) [] := by
  refine pcall_intro func118 rfl rfl ?_
  repeat' ((conv => whnf) <;> first
    | refine wpB_t rfl ?_
    | refine wpB_f rfl ?_
    | refine wpLen_i ?_
    | refine wpN_e (n := 0) rfl ?_
    | refine wpN_e (n := 1) rfl ?_
    | refine wpN_e (n := 2) rfl ?_
    | refine wpN_e (n := 3) rfl ?_
    | refine wpN_e (n := 4) rfl ?_
    | refine wpN_e (n := 5) rfl ?_
    | refine wpN_e (n := 6) rfl ?_
    | refine wpN_e (n := 7) rfl ?_
    | refine wpN_e (n := 8) rfl ?_
    | refine wpN_e (n := 9) rfl ?_
    | refine wpN_e (n := 10) rfl ?_
    | refine wpN_e (n := 11) rfl ?_
    | refine wpN_e (n := 12) rfl ?_
    | refine wpN_e (n := 13) rfl ?_
    | refine wpN_e (n := -1) rfl ?_
    | refine wpN_e (n := 100) rfl ?_
    | refine wpN_e (n := 1099511627776) rfl ?_
    | refine loop_unroll' ?_
    | refine wpRegD_i rfl ?_
    | refine wpSide_i ⟨rfl, trivial⟩ ?_
    | refine wpSide_i trivial ?_
    | refine wpSide_i (by decide) ?_
    | refine wpSide_i (by simp) ?_
    | refine wpSide_i (by constructor <;> decide) ?_
    | refine wpIdx_i (n := 0) rfl rfl rfl ?_
    | refine wpIdx_i (n := 1) rfl rfl rfl ?_
    | refine wpIdx_i (n := 2) rfl rfl rfl ?_
    | refine wpIdx_i (n := 3) rfl rfl rfl ?_
    | refine wpIdx_i (n := 4) rfl rfl rfl ?_
    | refine wpIdx_i (n := 5) rfl rfl rfl ?_
    | refine wpIdx_i (n := 6) rfl rfl rfl ?_
    | refine wpIdx_i (n := 7) rfl rfl rfl ?_
    | refine wpIdx_i (n := 8) rfl rfl rfl ?_
    | refine wpIdx_i (n := 9) rfl rfl rfl ?_
    | refine wpIdx_i (n := 10) rfl rfl rfl ?_
    | refine wpIdx_i (n := 11) rfl rfl rfl ?_
    | refine wpIdx_i (n := 12) rfl rfl rfl ?_
    | refine wpIdx_i (n := 13) rfl rfl rfl ?_
    | refine wpCall_r al120c ?_
    | (apply wpCall_r; apply pcall_intro func119 rfl rfl)
    | refine ⟨rfl, ?_⟩
    | refine ⟨_, rfl, ?_⟩
    | exact rfl)
set_option maxRecDepth 100000 in
theorem al35c : PCX I 35 [.w (.agg [.p (.v (vI 1)), .p (.v (vS [99, 117, 112])), .p (.v (vS [])), .p (.v (vI 0)), .p (.v (vI 0)), .p (.v (vI 0)), .p (.v (vI 0)), .p (.v (vI 0)), .p (.v (vI 0)), .p (.v (.bool false))])] [] (.ret (AV.bool true)) [] := by
  refine pcall_intro func35 rfl rfl ?_
  repeat' ((conv => whnf) <;> first
    | refine wpB_t rfl ?_
    | refine wpB_f rfl ?_
    | refine wpLen_i ?_
    | refine wpN_e (n := 0) rfl ?_
    | refine wpN_e (n := 1) rfl ?_
    | refine wpN_e (n := 2) rfl ?_
    | refine wpN_e (n := 3) rfl ?_
    | refine wpN_e (n := 4) rfl ?_
    | refine wpN_e (n := 5) rfl ?_
    | refine wpN_e (n := 6) rfl ?_
    | refine wpN_e (n := 7) rfl ?_
    | refine wpN_e (n := 8) rfl ?_
    | refine wpN_e (n := 9) rfl ?_
    | refine wpN_e (n := 10) rfl ?_
    | refine wpN_e (n := 11) rfl ?_
    | refine wpN_e (n := 12) rfl ?_
    | refine wpN_e (n := 13) rfl ?_
    | refine wpN_e (n := -1) rfl ?_
    | refine wpN_e (n := 100) rfl ?_
    | refine wpN_e (n := 1099511627776) rfl ?_
    | refine loop_unroll' ?_
    | refine wpRegD_i rfl ?_
    | refine wpSide_i ⟨rfl, trivial⟩ ?_
    | refine wpSide_i trivial ?_
    | refine wpSide_i (by decide) ?_
    | refine wpSide_i (by simp) ?_
    | refine wpSide_i (by constructor <;> decide) ?_
    | refine wpIdx_i (n := 0) rfl rfl rfl ?_
    | refine wpIdx_i (n := 1) rfl rfl rfl ?_
    | refine wpIdx_i (n := 2) rfl rfl rfl ?_
    | refine wpIdx_i (n := 3) rfl rfl rfl ?_
    | refine wpIdx_i (n := 4) rfl rfl rfl ?_
    | refine wpIdx_i (n := 5) rfl rfl rfl ?_
    | refine wpIdx_i (n := 6) rfl rfl rfl ?_
    | refine wpIdx_i (n := 7) rfl rfl rfl ?_
    | refine wpIdx_i (n := 8) rfl rfl rfl ?_
    | refine wpIdx_i (n := 9) rfl rfl rfl ?_
    | refine wpIdx_i (n := 10) rfl rfl rfl ?_
    | refine wpIdx_i (n := 11) rfl rfl rfl ?_
    | refine wpIdx_i (n := 12) rfl rfl rfl ?_
    | refine wpIdx_i (n := 13) rfl rfl rfl ?_
    | refine wpCall_r al118c ?_
    | refine wpCall_r al120c ?_
    | (apply wpCall_r; apply pcall_intro func117 rfl rfl)
    | (apply wpCall_r; apply pcall_intro func118 rfl rfl)
    | (apply wpCall_r; apply pcall_intro func119 rfl rfl)
    | (apply wpCall_r; apply pcall_intro func121 rfl rfl)
    | refine ⟨⟨.ret _, _, numbers109 _ _ _ _ _ _ _ _ _ _, ?_⟩⟩
    | refine ⟨rfl, ?_⟩
    | refine ⟨_, rfl, ?_⟩
    | exact rfl)
end Go.Fw
namespace Go.Fw
open Go Go.Proofs.Tryz
variable {I : CallRel}
theorem oneL_app {xs ys : List (List Value)} (h : oneL xs) (h' : oneL ys) : oneL (xs ++ ys) := fun es hes => by
  rcases List.mem_append.1 hes with q | q
  · exact h es q
  · exact h' es q
theorem oneL_take {xs : List (List Value)} (h : oneL xs) (n : Nat) : oneL (xs.take n) := fun es hes => h es (List.mem_of_mem_take hes)
set_option maxRecDepth 100000 in
theorem insEnd534 (xs vs : List (List Value)) (hx : oneL xs) (hv : oneL vs) (hm : 0 < vs.length) (hn : xs.length + vs.length ≤ 1048576) :
    PCX I 534 [.one (.ref 0 xs.length), .int xs.length, .one (.ref 1 vs.length)] [.vec 9 xs false, .vec 9 vs false] (.ret (.one (.ref 2 (xs.length + vs.length)))) [.dead, .dead, .vec 9 (xs ++ vs) false] := by
  refine pcall_own func534 rfl rfl ?_
  conv => whnf
  refine wpSide_i rfl ⟨.inl ⟨fun sp h1 h2 => ?_⟩⟩
  refine wpSide_i ⟨by simp, by show (0:Int) ≤ (xs.length : Int); omega, Int.le_refl _, by simp only [mxOK]; simp; omega⟩ ?_
  conv => whnf
  refine wpSide_i rfl (wpLen_i ?_)
  conv => whnf
  refine wpB_f (by simp; intro h; subst h; simp at hm) ?_
  conv => whnf
  refine wpSide_i ⟨rfl, trivial⟩ ?_
  refine wpSide_i ⟨by simp, by omega⟩ ?_
  conv => whnf
  refine wpB_t (by simp) ?_
  conv => whnf
  refine wpSide_i ⟨rfl, trivial⟩ ?_
  refine wpSide_i ⟨rfl, by simp, hv⟩ ?_
  refine wpB_c (fun h => ?_) (fun h => ?_)
  · have h : vs.length ≤ sp.length := by simpa using h
    conv => whnf
    refine ⟨_, mkS [(6, .one (.win 0 0 (xs.length + vs.length)))] [(0, .buf 9 xs.length ((xs ++ sp).take xs.length ++ vs ++ (xs ++ sp).drop (xs.length + vs.length)))] 2 _ 2, rfl, le_mkS ⟨.inl ⟨rfl, rfl⟩, trivial⟩ ⟨.inl ⟨rfl, rfl⟩, trivial⟩ rfl rfl, ?_⟩
    have e1 : ((xs ++ sp).take xs.length ++ vs ++ (xs ++ sp).drop (xs.length + vs.length)).take (xs.length + vs.length) = xs ++ vs := by
      rw [List.take_append_of_le_length (by simp), List.take_of_length_le (by simp)]; simp
    refine ⟨⟨[(0, xs.length + vs.length)], _, rfl, by simp, ⟨.inl rfl, .inl rfl, trivial⟩, ⟨⟨9, xs ++ vs, ?_, rfl, by simp, by show _ ≤ _; omega, oneL_app hx hv⟩, trivial⟩, ⟨rfl, trivial⟩, rfl, by simp [tupOf]⟩⟩
    show some (9, ((xs ++ sp).take xs.length ++ vs ++ (xs ++ sp).drop (xs.length + vs.length)).take (xs.length + vs.length)) = some (9, xs ++ vs)
    rw [e1]
  · have e1 : (xs ++ sp).take xs.length = xs := by simp
    conv => whnf
    refine wpSide_i ⟨⟨(?_ : (_ + _) * 16 ≤ _), (?_ : _ + _ ≤ _)⟩, by rw [e1]; exact hx⟩ ?_
    · omega
    · omega
    conv => whnf
    refine ⟨_, mkS [(6, .one (.ref 2 (xs.length + vs.length)))] [(2, .vec 9 ((xs ++ sp).take xs.length ++ vs) false)] 3 _ 2, rfl, le_mkS ⟨.inl ⟨rfl, rfl⟩, trivial⟩ ⟨.inl ⟨rfl, rfl⟩, trivial⟩ rfl rfl, ?_⟩
    rw [e1]
    exact ⟨⟨[(2, xs.length + vs.length)], _, rfl, by simp, ⟨.inl rfl, .inl rfl, trivial⟩, ⟨⟨9, xs ++ vs, rfl, rfl, by simp, by show _ ≤ _; omega, trivial⟩, trivial⟩, ⟨⟨trivial, rfl⟩, trivial⟩, rfl, by simp [tupOf]⟩⟩
end Go.Fw
namespace Go.Fw
open Go Go.Proofs.Tryz
variable {I : CallRel}
set_option maxRecDepth 100000 in
theorem al456c : PCX I 456 [.one (.p (.sl [])), .str [99, 117, 112], .one (.fn 204 [] [])] [] (.ret (.one (.p (.sl [[vS [99, 117, 112]]])))) [] := by
  refine pcall_intro func456 rfl rfl ?_
  repeat' ((conv => whnf) <;> first
    | refine wpB_t rfl ?_
    | refine wpB_f rfl ?_
    | refine wpLen_i ?_
    | refine wpN_e (n := 0) rfl ?_
    | refine wpN_e (n := 1) rfl ?_
    | refine wpN_e (n := 2) rfl ?_
    | refine wpN_e (n := 3) rfl ?_
    | refine wpN_e (n := 4) rfl ?_
    | refine wpN_e (n := 5) rfl ?_
    | refine wpN_e (n := 6) rfl ?_
    | refine wpN_e (n := 7) rfl ?_
    | refine wpN_e (n := 8) rfl ?_
    | refine wpN_e (n := 9) rfl ?_
    | refine wpN_e (n := 10) rfl ?_
    | refine wpN_e (n := 11) rfl ?_
    | refine wpN_e (n := 12) rfl ?_
    | refine wpN_e (n := 13) rfl ?_
    | refine wpN_e (n := -1) rfl ?_
    | refine wpN_e (n := 100) rfl ?_
    | refine wpN_e (n := 1099511627776) rfl ?_
    | refine loop_unroll' ?_
    | refine wpRegD_i rfl ?_
    | refine wpSide_i ⟨rfl, trivial⟩ ?_
    | refine wpSide_i trivial ?_
    | refine wpSide_i (by decide) ?_
    | refine wpSide_i (by simp) ?_
    | refine wpSide_i (by constructor <;> decide) ?_
    | refine wpIdx_i (n := 0) rfl rfl rfl ?_
    | refine wpIdx_i (n := 1) rfl rfl rfl ?_
    | refine wpIdx_i (n := 2) rfl rfl rfl ?_
    | refine wpIdx_i (n := 3) rfl rfl rfl ?_
    | refine wpIdx_i (n := 4) rfl rfl rfl ?_
    | refine wpIdx_i (n := 5) rfl rfl rfl ?_
    | refine wpIdx_i (n := 6) rfl rfl rfl ?_
    | refine wpIdx_i (n := 7) rfl rfl rfl ?_
    | refine wpIdx_i (n := 8) rfl rfl rfl ?_
    | refine wpIdx_i (n := 9) rfl rfl rfl ?_
    | refine wpIdx_i (n := 10) rfl rfl rfl ?_
    | refine wpIdx_i (n := 11) rfl rfl rfl ?_
    | refine wpIdx_i (n := 12) rfl rfl rfl ?_
    | refine wpIdx_i (n := 13) rfl rfl rfl ?_
    | (apply wpCall_r; apply pcall_intro func533 rfl rfl)
    | refine ⟨⟨.ret _, _, clone316 _ (by simp) (by simp), ?_⟩⟩
    | refine ⟨⟨.ret _, _, clone188 _ (by simp) (by simp), ?_⟩⟩
    | refine ⟨⟨.ret _, _, clone285 _ (by simp) (by simp), ?_⟩⟩
    | refine ⟨⟨.ret _, _, clone195 _ (by simp) (by simp), ?_⟩⟩
    | refine ⟨⟨.ret _, _, clone460 _ (by simp) (by simp), ?_⟩⟩
    | refine ⟨⟨.ret _, _, clone360 _ (by simp) (by simp), ?_⟩⟩
    | refine ⟨⟨.ret _, _, insEnd534 [] [[vS [99, 117, 112]]] (by intro es hes; cases hes) (by intro es hes u hu; simp at hes; subst hes; simp at hu; subst hu; rfl) (by decide) (by decide), ?_⟩⟩
    | refine ⟨rfl, ?_⟩
    | refine ⟨_, rfl, ?_⟩
    | exact rfl)
set_option maxRecDepth 100000 in
theorem al346c : PCX I 346 [.w (.agg [.p (.sl []), .p (.sl [])]), .str [99, 117, 112]] [] (.ret (.tup [.agg [.p (.sl [[vS [99, 117, 112]]]), .p (.sl [])], .one (.p (.v (vI 0)))])) [] := by
  refine pcall_intro func346 rfl rfl ?_
  repeat' ((conv => whnf) <;> first
    | refine wpB_t rfl ?_
    | refine wpB_f rfl ?_
    | refine wpLen_i ?_
    | refine wpN_e (n := 0) rfl ?_
    | refine wpN_e (n := 1) rfl ?_
    | refine wpN_e (n := 2) rfl ?_
    | refine wpN_e (n := 3) rfl ?_
    | refine wpN_e (n := 4) rfl ?_
    | refine wpN_e (n := 5) rfl ?_
    | refine wpN_e (n := 6) rfl ?_
    | refine wpN_e (n := 7) rfl ?_
    | refine wpN_e (n := 8) rfl ?_
    | refine wpN_e (n := 9) rfl ?_
    | refine wpN_e (n := 10) rfl ?_
    | refine wpN_e (n := 11) rfl ?_
    | refine wpN_e (n := 12) rfl ?_
    | refine wpN_e (n := 13) rfl ?_
    | refine wpN_e (n := -1) rfl ?_
    | refine wpN_e (n := 100) rfl ?_
    | refine wpN_e (n := 1099511627776) rfl ?_
    | refine loop_unroll' ?_
    | refine wpRegD_i rfl ?_
    | refine wpSide_i ⟨rfl, trivial⟩ ?_
    | refine wpSide_i trivial ?_
    | refine wpSide_i (by decide) ?_
    | refine wpSide_i (by simp) ?_
    | refine wpSide_i (by constructor <;> decide) ?_
    | refine wpIdx_i (n := 0) rfl rfl rfl ?_
    | refine wpIdx_i (n := 1) rfl rfl rfl ?_
    | refine wpIdx_i (n := 2) rfl rfl rfl ?_
    | refine wpIdx_i (n := 3) rfl rfl rfl ?_
    | refine wpIdx_i (n := 4) rfl rfl rfl ?_
    | refine wpIdx_i (n := 5) rfl rfl rfl ?_
    | refine wpIdx_i (n := 6) rfl rfl rfl ?_
    | refine wpIdx_i (n := 7) rfl rfl rfl ?_
    | refine wpIdx_i (n := 8) rfl rfl rfl ?_
    | refine wpIdx_i (n := 9) rfl rfl rfl ?_
    | refine wpIdx_i (n := 10) rfl rfl rfl ?_
    | refine wpIdx_i (n := 11) rfl rfl rfl ?_
    | refine wpIdx_i (n := 12) rfl rfl rfl ?_
    | refine wpIdx_i (n := 13) rfl rfl rfl ?_
    | refine wpCall_r al94e ?_
    | refine wpCall_r al456c ?_
    | (apply wpCall_r; apply pcall_intro func100 rfl rfl)
    | (apply wpCall_r; apply pcall_intro func202 rfl rfl)
    | (apply wpCall_r; apply pcall_intro func204 rfl rfl)
    | (apply wpCall_r; apply pcall_intro func214 rfl rfl)
    | (apply wpCall_r; apply pcall_intro func368 rfl rfl)
    | (apply wpCall_r; apply pcall_intro func369 rfl rfl)
    | (apply wpCall_r; apply pcall_intro func370 rfl rfl)
    | (apply wpCall_r; apply pcall_intro func481 rfl rfl)
    | (apply wpCall_r; apply pcall_intro func482 rfl rfl)
    | refine ⟨rfl, ?_⟩
    | refine ⟨_, rfl, ?_⟩
    | exact rfl)
end Go.Fw
namespace Go.Fw
open Go Go.Proofs.Tryz
variable {I : CallRel}
set_option maxRecDepth 100000 in
theorem al27c : PCX I 27 [.w (.agg [.p (.sl [[vS [99, 117, 112]]]), .p (.sl []), .p (.sl []), .p (.sl []), .p (.sl []), .p (.sl []), .p (.v (vI 0)), .p (.sl []), .p (.v (vI 0)), .p (.v (vI 0))])] [] (.ret (AV.bool true)) [] := by
  refine pcall_intro func27 rfl rfl ?_
  repeat' ((conv => whnf) <;> first
    | refine wpB_t rfl ?_
    | refine wpB_f rfl ?_
    | refine wpLen_i ?_
    | refine wpN_e (n := 0) rfl ?_
    | refine wpN_e (n := 1) rfl ?_
    | refine wpN_e (n := 2) rfl ?_
    | refine wpN_e (n := 3) rfl ?_
    | refine wpN_e (n := 4) rfl ?_
    | refine wpN_e (n := 5) rfl ?_
    | refine wpN_e (n := 6) rfl ?_
    | refine wpN_e (n := 7) rfl ?_
    | refine wpN_e (n := 8) rfl ?_
    | refine wpN_e (n := 9) rfl ?_
    | refine wpN_e (n := 10) rfl ?_
    | refine wpN_e (n := 11) rfl ?_
    | refine wpN_e (n := 12) rfl ?_
    | refine wpN_e (n := 13) rfl ?_
    | refine wpN_e (n := -1) rfl ?_
    | refine wpN_e (n := 100) rfl ?_
    | refine wpN_e (n := 1099511627776) rfl ?_
    | refine loop_unroll' ?_
    | refine wpRegD_i rfl ?_
    | refine wpSide_i ⟨rfl, trivial⟩ ?_
    | refine wpSide_i trivial ?_
    | refine wpSide_i (by decide) ?_
    | refine wpSide_i (by simp) ?_
    | refine wpSide_i (by constructor <;> decide) ?_
    | refine wpIdx_i (n := 0) rfl rfl rfl ?_
    | refine wpIdx_i (n := 1) rfl rfl rfl ?_
    | refine wpIdx_i (n := 2) rfl rfl rfl ?_
    | refine wpIdx_i (n := 3) rfl rfl rfl ?_
    | refine wpIdx_i (n := 4) rfl rfl rfl ?_
    | refine wpIdx_i (n := 5) rfl rfl rfl ?_
    | refine wpIdx_i (n := 6) rfl rfl rfl ?_
    | refine wpIdx_i (n := 7) rfl rfl rfl ?_
    | refine wpIdx_i (n := 8) rfl rfl rfl ?_
    | refine wpIdx_i (n := 9) rfl rfl rfl ?_
    | refine wpIdx_i (n := 10) rfl rfl rfl ?_
    | refine wpIdx_i (n := 11) rfl rfl rfl ?_
    | refine wpIdx_i (n := 12) rfl rfl rfl ?_
    | refine wpIdx_i (n := 13) rfl rfl rfl ?_
    | refine wpCall_r al94e ?_
    | refine wpCall_r al95e ?_
    | refine wpCall_r al96e ?_
    | refine wpCall_r al97e ?_
    | refine wpCall_r al77e ?_
    | refine wpCall_r al78e ?_
    | refine wpCall_r al94c ?_
    | (apply wpCall_r; apply pcall_intro func47 rfl rfl)
    | (apply wpCall_r; apply pcall_intro func76 rfl rfl)
    | (apply wpCall_r; apply pcall_intro func79 rfl rfl)
    | (apply wpCall_r; apply pcall_intro func98 rfl rfl)
    | (apply wpCall_r; apply pcall_intro func99 rfl rfl)
    | (apply wpCall_r; apply pcall_intro func100 rfl rfl)
    | (apply wpCall_r; apply pcall_intro func101 rfl rfl)
    | (apply wpCall_r; apply pcall_intro func102 rfl rfl)
    | (apply wpCall_r; apply pcall_intro func103 rfl rfl)
    | (apply wpCall_r; apply pcall_intro func104 rfl rfl)
    | (apply wpCall_r; apply pcall_intro func105 rfl rfl)
    | (apply wpCall_r; apply pcall_intro func130 rfl rfl)
    | (apply wpCall_r; apply pcall_intro func168 rfl rfl)
    | (apply wpCall_r; apply pcall_intro func172 rfl rfl)
    | (apply wpCall_r; apply pcall_intro func212 rfl rfl)
    | (apply wpCall_r; apply pcall_intro func213 rfl rfl)
    | (apply wpCall_r; apply pcall_intro func214 rfl rfl)
    | (apply wpCall_r; apply pcall_intro func215 rfl rfl)
    | (apply wpCall_r; apply pcall_intro func247 rfl rfl)
    | (apply wpCall_r; apply pcall_intro func248 rfl rfl)
    | (apply wpCall_r; apply pcall_intro func249 rfl rfl)
    | (apply wpCall_r; apply pcall_intro func250 rfl rfl)
    | (apply wpCall_r; apply pcall_intro func251 rfl rfl)
    | (apply wpCall_r; apply pcall_intro func252 rfl rfl)
    | (apply wpCall_r; apply pcall_intro func314 rfl rfl)
    | (apply wpCall_r; apply pcall_intro func315 rfl rfl)
    | (apply wpCall_r; apply pcall_intro func363 rfl rfl)
    | (apply wpCall_r; apply pcall_intro func375 rfl rfl)
    | (apply wpCall_r; apply pcall_intro func376 rfl rfl)
    | (apply wpCall_r; apply pcall_intro func384 rfl rfl)
    | (apply wpCall_r; apply pcall_intro func385 rfl rfl)
    | (apply wpCall_r; apply pcall_intro func386 rfl rfl)
    | (apply wpCall_r; apply pcall_intro func387 rfl rfl)
    | (apply wpCall_r; apply pcall_intro func388 rfl rfl)
    | (apply wpCall_r; apply pcall_intro func389 rfl rfl)
    | (apply wpCall_r; apply pcall_intro func390 rfl rfl)
    | (apply wpCall_r; apply pcall_intro func391 rfl rfl)
    | (apply wpCall_r; apply pcall_intro func392 rfl rfl)
    | (apply wpCall_r; apply pcall_intro func447 rfl rfl)
    | (apply wpCall_r; apply pcall_intro func488 rfl rfl)
    | (apply wpCall_r; apply pcall_intro func489 rfl rfl)
    | (apply wpCall_r; apply pcall_intro func490 rfl rfl)
    | (apply wpCall_r; apply pcall_intro func564 rfl rfl)
    | (apply wpCall_r; apply pcall_intro func565 rfl rfl)
    | refine ⟨rfl, ?_⟩
    | refine ⟨_, rfl, ?_⟩
    | exact rfl)
set_option maxRecDepth 100000 in
theorem al75c : PCX I 75 [.one (.p (.sl [])), .str [99, 117, 112]] [] (.ret (.tup [.one (.p (.sl [])), .one (.p (.v (vI 0)))])) [] := by
  refine pcall_intro func75 rfl rfl ?_
  repeat' ((conv => whnf) <;> first
    | refine wpB_t rfl ?_
    | refine wpB_f rfl ?_
    | refine wpLen_i ?_
    | refine wpN_e (n := 0) rfl ?_
    | refine wpN_e (n := 1) rfl ?_
    | refine wpN_e (n := 2) rfl ?_
    | refine wpN_e (n := 3) rfl ?_
    | refine wpN_e (n := 4) rfl ?_
    | refine wpN_e (n := 5) rfl ?_
    | refine wpN_e (n := 6) rfl ?_
    | refine wpN_e (n := 7) rfl ?_
    | refine wpN_e (n := 8) rfl ?_
    | refine wpN_e (n := 9) rfl ?_
    | refine wpN_e (n := 10) rfl ?_
    | refine wpN_e (n := 11) rfl ?_
    | refine wpN_e (n := 12) rfl ?_
    | refine wpN_e (n := 13) rfl ?_
    | refine wpN_e (n := -1) rfl ?_
    | refine wpN_e (n := 100) rfl ?_
    | refine wpN_e (n := 1099511627776) rfl ?_
    | refine loop_unroll' ?_
    | refine wpRegD_i rfl ?_
    | refine wpSide_i ⟨rfl, trivial⟩ ?_
    | refine wpSide_i trivial ?_
    | refine wpSide_i (by decide) ?_
    | refine wpSide_i (by simp) ?_
    | refine wpSide_i (by constructor <;> decide) ?_
    | refine wpIdx_i (n := 0) rfl rfl rfl ?_
    | refine wpIdx_i (n := 1) rfl rfl rfl ?_
    | refine wpIdx_i (n := 2) rfl rfl rfl ?_
    | refine wpIdx_i (n := 3) rfl rfl rfl ?_
    | refine wpIdx_i (n := 4) rfl rfl rfl ?_
    | refine wpIdx_i (n := 5) rfl rfl rfl ?_
    | refine wpIdx_i (n := 6) rfl rfl rfl ?_
    | refine wpIdx_i (n := 7) rfl rfl rfl ?_
    | refine wpIdx_i (n := 8) rfl rfl rfl ?_
    | refine wpIdx_i (n := 9) rfl rfl rfl ?_
    | refine wpIdx_i (n := 10) rfl rfl rfl ?_
    | refine wpIdx_i (n := 11) rfl rfl rfl ?_
    | refine wpIdx_i (n := 12) rfl rfl rfl ?_
    | refine wpIdx_i (n := 13) rfl rfl rfl ?_
    | refine wpCall_r al94e ?_
    | refine wpCall_r al95e ?_
    | refine wpCall_r al96e ?_
    | refine wpCall_r al97e ?_
    | refine wpCall_r al77e ?_
    | refine wpCall_r al78e ?_
    | refine wpCall_r al94c ?_
    | (apply wpCall_r; apply pcall_intro func76 rfl rfl)
    | (apply wpCall_r; apply pcall_intro func167 rfl rfl)
    | (apply wpCall_r; apply pcall_intro func168 rfl rfl)
    | (apply wpCall_r; apply pcall_intro func204 rfl rfl)
    | (apply wpCall_r; apply pcall_intro func248 rfl rfl)
    | (apply wpCall_r; apply pcall_intro func311 rfl rfl)
    | (apply wpCall_r; apply pcall_intro func312 rfl rfl)
    | (apply wpCall_r; apply pcall_intro func313 rfl rfl)
    | (apply wpCall_r; apply pcall_intro func314 rfl rfl)
    | (apply wpCall_r; apply pcall_intro func315 rfl rfl)
    | (apply wpCall_r; apply pcall_intro func370 rfl rfl)
    | (apply wpCall_r; apply pcall_intro func384 rfl rfl)
    | (apply wpCall_r; apply pcall_intro func444 rfl rfl)
    | (apply wpCall_r; apply pcall_intro func445 rfl rfl)
    | (apply wpCall_r; apply pcall_intro func446 rfl rfl)
    | (apply wpCall_r; apply pcall_intro func447 rfl rfl)
    | (apply wpCall_r; apply pcall_intro func482 rfl rfl)
    | (apply wpCall_r; apply pcall_intro func488 rfl rfl)
    | (apply wpCall_r; apply pcall_intro func489 rfl rfl)
    | (apply wpCall_r; apply pcall_intro func490 rfl rfl)
    | (apply wpCall_r; apply pcall_intro func521 rfl rfl)
    | (apply wpCall_r; apply pcall_intro func564 rfl rfl)
    | (apply wpCall_r; apply pcall_intro func565 rfl rfl)
    | refine ⟨rfl, ?_⟩
    | refine ⟨_, rfl, ?_⟩
    | exact rfl)
set_option maxRecDepth 100000 in
theorem al83c : PCX I 83 [.w (.agg [.p (.sl [[vS [99, 117, 112]]]), .p (.sl []), .p (.sl []), .p (.sl []), .p (.sl []), .p (.sl []), .p (.v (vI 0)), .p (.sl []), .p (.v (vI 0)), .p (.v (vI 0))])] [] (.ret (.tup [.agg [.p (.sl [[vS [99, 117, 112]]]), .p (.sl []), .p (.sl []), .p (.sl []), .p (.sl []), .p (.sl []), .p (.v (vI 0)), .p (.sl []), .p (.v (vI 0)), .p (.v (vI 0))], .one (.p (.sl [])), .one (.p (.v (vI 0)))])) [] := by
  refine pcall_intro func83 rfl rfl ?_
  repeat' ((conv => whnf) <;> first
    | refine wpB_t rfl ?_
    | refine wpB_f rfl ?_
    | refine wpLen_i ?_
    | refine wpN_e (n := 0) rfl ?_
    | refine wpN_e (n := 1) rfl ?_
    | refine wpN_e (n := 2) rfl ?_
    | refine wpN_e (n := 3) rfl ?_
    | refine wpN_e (n := 4) rfl ?_
    | refine wpN_e (n := 5) rfl ?_
    | refine wpN_e (n := 6) rfl ?_
    | refine wpN_e (n := 7) rfl ?_
    | refine wpN_e (n := 8) rfl ?_
    | refine wpN_e (n := 9) rfl ?_
    | refine wpN_e (n := 10) rfl ?_
    | refine wpN_e (n := 11) rfl ?_
    | refine wpN_e (n := 12) rfl ?_
    | refine wpN_e (n := 13) rfl ?_
    | refine wpN_e (n := -1) rfl ?_
    | refine wpN_e (n := 100) rfl ?_
    | refine wpN_e (n := 1099511627776) rfl ?_
    | refine loop_unroll' ?_
    | refine wpRegD_i rfl ?_
    | refine wpSide_i ⟨rfl, trivial⟩ ?_
    | refine wpSide_i trivial ?_
    | refine wpSide_i (by decide) ?_
    | refine wpSide_i (by simp) ?_
    | refine wpSide_i (by constructor <;> decide) ?_
    | refine wpIdx_i (n := 0) rfl rfl rfl ?_
    | refine wpIdx_i (n := 1) rfl rfl rfl ?_
    | refine wpIdx_i (n := 2) rfl rfl rfl ?_
    | refine wpIdx_i (n := 3) rfl rfl rfl ?_
    | refine wpIdx_i (n := 4) rfl rfl rfl ?_
    | refine wpIdx_i (n := 5) rfl rfl rfl ?_
    | refine wpIdx_i (n := 6) rfl rfl rfl ?_
    | refine wpIdx_i (n := 7) rfl rfl rfl ?_
    | refine wpIdx_i (n := 8) rfl rfl rfl ?_
    | refine wpIdx_i (n := 9) rfl rfl rfl ?_
    | refine wpIdx_i (n := 10) rfl rfl rfl ?_
    | refine wpIdx_i (n := 11) rfl rfl rfl ?_
    | refine wpIdx_i (n := 12) rfl rfl rfl ?_
    | refine wpIdx_i (n := 13) rfl rfl rfl ?_
    | refine wpCall_r al94e ?_
    | refine wpCall_r al95e ?_
    | refine wpCall_r al96e ?_
    | refine wpCall_r al97e ?_
    | refine wpCall_r al77e ?_
    | refine wpCall_r al78e ?_
    | refine wpCall_r al94c ?_
    | refine wpCall_r al27c ?_
    | refine wpCall_r al75c ?_
    | (apply wpCall_r; apply pcall_intro func76 rfl rfl)
    | (apply wpCall_r; apply pcall_intro func94 rfl rfl)
    | (apply wpCall_r; apply pcall_intro func95 rfl rfl)
    | (apply wpCall_r; apply pcall_intro func97 rfl rfl)
    | (apply wpCall_r; apply pcall_intro func100 rfl rfl)
    | (apply wpCall_r; apply pcall_intro func106 rfl rfl)
    | (apply wpCall_r; apply pcall_intro func107 rfl rfl)
    | (apply wpCall_r; apply pcall_intro func108 rfl rfl)
    | (apply wpCall_r; apply pcall_intro func130 rfl rfl)
    | (apply wpCall_r; apply pcall_intro func167 rfl rfl)
    | (apply wpCall_r; apply pcall_intro func168 rfl rfl)
    | (apply wpCall_r; apply pcall_intro func189 rfl rfl)
    | (apply wpCall_r; apply pcall_intro func190 rfl rfl)
    | (apply wpCall_r; apply pcall_intro func191 rfl rfl)
    | (apply wpCall_r; apply pcall_intro func192 rfl rfl)
    | (apply wpCall_r; apply pcall_intro func194 rfl rfl)
    | (apply wpCall_r; apply pcall_intro func197 rfl rfl)
    | (apply wpCall_r; apply pcall_intro func198 rfl rfl)
    | (apply wpCall_r; apply pcall_intro func199 rfl rfl)
    | (apply wpCall_r; apply pcall_intro func200 rfl rfl)
    | (apply wpCall_r; apply pcall_intro func201 rfl rfl)
    | (apply wpCall_r; apply pcall_intro func202 rfl rfl)
    | (apply wpCall_r; apply pcall_intro func203 rfl rfl)
    | (apply wpCall_r; apply pcall_intro func204 rfl rfl)
    | (apply wpCall_r; apply pcall_intro func205 rfl rfl)
    | (apply wpCall_r; apply pcall_intro func206 rfl rfl)
    | (apply wpCall_r; apply pcall_intro func207 rfl rfl)
    | (apply wpCall_r; apply pcall_intro func210 rfl rfl)
    | (apply wpCall_r; apply pcall_intro func211 rfl rfl)
    | (apply wpCall_r; apply pcall_intro func212 rfl rfl)
    | (apply wpCall_r; apply pcall_intro func213 rfl rfl)
    | (apply wpCall_r; apply pcall_intro func214 rfl rfl)
    | (apply wpCall_r; apply pcall_intro func216 rfl rfl)
    | (apply wpCall_r; apply pcall_intro func217 rfl rfl)
    | (apply wpCall_r; apply pcall_intro func218 rfl rfl)
    | (apply wpCall_r; apply pcall_intro func219 rfl rfl)
    | (apply wpCall_r; apply pcall_intro func220 rfl rfl)
    | (apply wpCall_r; apply pcall_intro func221 rfl rfl)
    | (apply wpCall_r; apply pcall_intro func222 rfl rfl)
    | (apply wpCall_r; apply pcall_intro func223 rfl rfl)
    | (apply wpCall_r; apply pcall_intro func247 rfl rfl)
    | (apply wpCall_r; apply pcall_intro func248 rfl rfl)
    | (apply wpCall_r; apply pcall_intro func249 rfl rfl)
    | (apply wpCall_r; apply pcall_intro func250 rfl rfl)
    | (apply wpCall_r; apply pcall_intro func251 rfl rfl)
    | (apply wpCall_r; apply pcall_intro func252 rfl rfl)
    | (apply wpCall_r; apply pcall_intro func311 rfl rfl)
    | (apply wpCall_r; apply pcall_intro func312 rfl rfl)
    | (apply wpCall_r; apply pcall_intro func313 rfl rfl)
    | (apply wpCall_r; apply pcall_intro func314 rfl rfl)
    | (apply wpCall_r; apply pcall_intro func315 rfl rfl)
    | (apply wpCall_r; apply pcall_intro func316 rfl rfl)
    | (apply wpCall_r; apply pcall_intro func358 rfl rfl)
    | (apply wpCall_r; apply pcall_intro func359 rfl rfl)
    | (apply wpCall_r; apply pcall_intro func360 rfl rfl)
    | (apply wpCall_r; apply pcall_intro func361 rfl rfl)
    | (apply wpCall_r; apply pcall_intro func362 rfl rfl)
    | (apply wpCall_r; apply pcall_intro func363 rfl rfl)
    | (apply wpCall_r; apply pcall_intro func365 rfl rfl)
    | (apply wpCall_r; apply pcall_intro func366 rfl rfl)
    | (apply wpCall_r; apply pcall_intro func367 rfl rfl)
    | (apply wpCall_r; apply pcall_intro func368 rfl rfl)
    | (apply wpCall_r; apply pcall_intro func369 rfl rfl)
    | (apply wpCall_r; apply pcall_intro func370 rfl rfl)
    | (apply wpCall_r; apply pcall_intro func371 rfl rfl)
    | (apply wpCall_r; apply pcall_intro func372 rfl rfl)
    | (apply wpCall_r; apply pcall_intro func373 rfl rfl)
    | (apply wpCall_r; apply pcall_intro func374 rfl rfl)
    | (apply wpCall_r; apply pcall_intro func375 rfl rfl)
    | (apply wpCall_r; apply pcall_intro func376 rfl rfl)
    | (apply wpCall_r; apply pcall_intro func377 rfl rfl)
    | (apply wpCall_r; apply pcall_intro func384 rfl rfl)
    | (apply wpCall_r; apply pcall_intro func385 rfl rfl)
    | (apply wpCall_r; apply pcall_intro func386 rfl rfl)
    | (apply wpCall_r; apply pcall_intro func387 rfl rfl)
    | (apply wpCall_r; apply pcall_intro func388 rfl rfl)
    | (apply wpCall_r; apply pcall_intro func389 rfl rfl)
    | (apply wpCall_r; apply pcall_intro func390 rfl rfl)
    | (apply wpCall_r; apply pcall_intro func391 rfl rfl)
    | (apply wpCall_r; apply pcall_intro func392 rfl rfl)
    | (apply wpCall_r; apply pcall_intro func444 rfl rfl)
    | (apply wpCall_r; apply pcall_intro func445 rfl rfl)
    | (apply wpCall_r; apply pcall_intro func446 rfl rfl)
    | (apply wpCall_r; apply pcall_intro func447 rfl rfl)
    | (apply wpCall_r; apply pcall_intro func459 rfl rfl)
    | (apply wpCall_r; apply pcall_intro func460 rfl rfl)
    | (apply wpCall_r; apply pcall_intro func462 rfl rfl)
    | (apply wpCall_r; apply pcall_intro func478 rfl rfl)
    | (apply wpCall_r; apply pcall_intro func479 rfl rfl)
    | (apply wpCall_r; apply pcall_intro func480 rfl rfl)
    | (apply wpCall_r; apply pcall_intro func481 rfl rfl)
    | (apply wpCall_r; apply pcall_intro func482 rfl rfl)
    | (apply wpCall_r; apply pcall_intro func483 rfl rfl)
    | (apply wpCall_r; apply pcall_intro func488 rfl rfl)
    | (apply wpCall_r; apply pcall_intro func489 rfl rfl)
    | (apply wpCall_r; apply pcall_intro func490 rfl rfl)
    | (apply wpCall_r; apply pcall_intro func521 rfl rfl)
    | (apply wpCall_r; apply pcall_intro func537 rfl rfl)
    | (apply wpCall_r; apply pcall_intro func538 rfl rfl)
    | (apply wpCall_r; apply pcall_intro func560 rfl rfl)
    | (apply wpCall_r; apply pcall_intro func561 rfl rfl)
    | (apply wpCall_r; apply pcall_intro func562 rfl rfl)
    | (apply wpCall_r; apply pcall_intro func564 rfl rfl)
    | (apply wpCall_r; apply pcall_intro func565 rfl rfl)
    | (apply wpCall_r; apply pcall_intro func594 rfl rfl)
    | refine ⟨⟨.ret _, _, clone316 _ (by simp) (by simp), ?_⟩⟩
    | refine ⟨⟨.ret _, _, clone188 _ (by simp) (by simp), ?_⟩⟩
    | refine ⟨⟨.ret _, _, clone285 _ (by simp) (by simp), ?_⟩⟩
    | refine ⟨⟨.ret _, _, clone195 _ (by simp) (by simp), ?_⟩⟩
    | refine ⟨⟨.ret _, _, clone460 _ (by simp) (by simp), ?_⟩⟩
    | refine ⟨⟨.ret _, _, clone360 _ (by simp) (by simp), ?_⟩⟩
    | refine ⟨rfl, ?_⟩
    | refine ⟨_, rfl, ?_⟩
    | exact rfl)
set_option maxRecDepth 100000 in
theorem al84c : PCX I 84 [.w (.agg [.p (.sl [[vS [99, 117, 112]]]), .p (.sl []), .p (.sl []), .p (.sl []), .p (.sl []), .p (.sl []), .p (.v (vI 0)), .p (.sl []), .p (.v (vI 0)), .p (.v (vI 0))]), .int 100] [] (.ret (.tup [.agg [.p (.sl [[vS [99, 117, 112]]]), .p (.sl []), .p (.sl []), .p (.sl []), .p (.sl []), .p (.sl []), .p (.v (vI 0)), .p (.sl []), .p (.v (vI 0)), .p (.v (vI 0))], .one (.p (.sl [])), .one (.p (.v (vI 0)))])) [] := by
  refine pcall_intro func84 rfl rfl ?_
  repeat' ((conv => whnf) <;> first
    | refine wpB_t rfl ?_
    | refine wpB_f rfl ?_
    | refine wpLen_i ?_
    | refine wpN_e (n := 0) rfl ?_
    | refine wpN_e (n := 1) rfl ?_
    | refine wpN_e (n := 2) rfl ?_
    | refine wpN_e (n := 3) rfl ?_
    | refine wpN_e (n := 4) rfl ?_
    | refine wpN_e (n := 5) rfl ?_
    | refine wpN_e (n := 6) rfl ?_
    | refine wpN_e (n := 7) rfl ?_
    | refine wpN_e (n := 8) rfl ?_
    | refine wpN_e (n := 9) rfl ?_
    | refine wpN_e (n := 10) rfl ?_
    | refine wpN_e (n := 11) rfl ?_
    | refine wpN_e (n := 12) rfl ?_
    | refine wpN_e (n := 13) rfl ?_
    | refine wpN_e (n := -1) rfl ?_
    | refine wpN_e (n := 100) rfl ?_
    | refine wpN_e (n := 1099511627776) rfl ?_
    | refine loop_unroll' ?_
    | refine wpRegD_i rfl ?_
    | refine wpSide_i ⟨rfl, trivial⟩ ?_
    | refine wpSide_i trivial ?_
    | refine wpSide_i (by decide) ?_
    | refine wpSide_i (by simp) ?_
    | refine wpSide_i (by constructor <;> decide) ?_
    | refine wpIdx_i (n := 0) rfl rfl rfl ?_
    | refine wpIdx_i (n := 1) rfl rfl rfl ?_
    | refine wpIdx_i (n := 2) rfl rfl rfl ?_
    | refine wpIdx_i (n := 3) rfl rfl rfl ?_
    | refine wpIdx_i (n := 4) rfl rfl rfl ?_
    | refine wpIdx_i (n := 5) rfl rfl rfl ?_
    | refine wpIdx_i (n := 6) rfl rfl rfl ?_
    | refine wpIdx_i (n := 7) rfl rfl rfl ?_
    | refine wpIdx_i (n := 8) rfl rfl rfl ?_
    | refine wpIdx_i (n := 9) rfl rfl rfl ?_
    | refine wpIdx_i (n := 10) rfl rfl rfl ?_
    | refine wpIdx_i (n := 11) rfl rfl rfl ?_
    | refine wpIdx_i (n := 12) rfl rfl rfl ?_
    | refine wpIdx_i (n := 13) rfl rfl rfl ?_
    | refine wpCall_r al94e ?_
    | refine wpCall_r al95e ?_
    | refine wpCall_r al96e ?_
    | refine wpCall_r al97e ?_
    | refine wpCall_r al77e ?_
    | refine wpCall_r al78e ?_
    | refine wpCall_r al94c ?_
    | refine wpCall_r al27c ?_
    | (apply wpCall_r; apply pcall_intro func94 rfl rfl)
    | (apply wpCall_r; apply pcall_intro func97 rfl rfl)
    | (apply wpCall_r; apply pcall_intro func100 rfl rfl)
    | (apply wpCall_r; apply pcall_intro func191 rfl rfl)
    | (apply wpCall_r; apply pcall_intro func192 rfl rfl)
    | (apply wpCall_r; apply pcall_intro func193 rfl rfl)
    | (apply wpCall_r; apply pcall_intro func194 rfl rfl)
    | (apply wpCall_r; apply pcall_intro func197 rfl rfl)
    | (apply wpCall_r; apply pcall_intro func198 rfl rfl)
    | (apply wpCall_r; apply pcall_intro func199 rfl rfl)
    | (apply wpCall_r; apply pcall_intro func200 rfl rfl)
    | (apply wpCall_r; apply pcall_intro func201 rfl rfl)
    | (apply wpCall_r; apply pcall_intro func202 rfl rfl)
    | (apply wpCall_r; apply pcall_intro func203 rfl rfl)
    | (apply wpCall_r; apply pcall_intro func204 rfl rfl)
    | (apply wpCall_r; apply pcall_intro func205 rfl rfl)
    | (apply wpCall_r; apply pcall_intro func206 rfl rfl)
    | (apply wpCall_r; apply pcall_intro func210 rfl rfl)
    | (apply wpCall_r; apply pcall_intro func211 rfl rfl)
    | (apply wpCall_r; apply pcall_intro func212 rfl rfl)
    | (apply wpCall_r; apply pcall_intro func213 rfl rfl)
    | (apply wpCall_r; apply pcall_intro func214 rfl rfl)
    | (apply wpCall_r; apply pcall_intro func251 rfl rfl)
    | (apply wpCall_r; apply pcall_intro func314 rfl rfl)
    | (apply wpCall_r; apply pcall_intro func315 rfl rfl)
    | (apply wpCall_r; apply pcall_intro func359 rfl rfl)
    | (apply wpCall_r; apply pcall_intro func360 rfl rfl)
    | (apply wpCall_r; apply pcall_intro func361 rfl rfl)
    | (apply wpCall_r; apply pcall_intro func362 rfl rfl)
    | (apply wpCall_r; apply pcall_intro func363 rfl rfl)
    | (apply wpCall_r; apply pcall_intro func365 rfl rfl)
    | (apply wpCall_r; apply pcall_intro func366 rfl rfl)
    | (apply wpCall_r; apply pcall_intro func367 rfl rfl)
    | (apply wpCall_r; apply pcall_intro func368 rfl rfl)
    | (apply wpCall_r; apply pcall_intro func369 rfl rfl)
    | (apply wpCall_r; apply pcall_intro func370 rfl rfl)
    | (apply wpCall_r; apply pcall_intro func375 rfl rfl)
    | (apply wpCall_r; apply pcall_intro func376 rfl rfl)
    | (apply wpCall_r; apply pcall_intro func447 rfl rfl)
    | (apply wpCall_r; apply pcall_intro func481 rfl rfl)
    | (apply wpCall_r; apply pcall_intro func482 rfl rfl)
    | refine ⟨⟨.ret _, _, clone316 _ (by simp) (by simp), ?_⟩⟩
    | refine ⟨⟨.ret _, _, clone188 _ (by simp) (by simp), ?_⟩⟩
    | refine ⟨⟨.ret _, _, clone285 _ (by simp) (by simp), ?_⟩⟩
    | refine ⟨⟨.ret _, _, clone195 _ (by simp) (by simp), ?_⟩⟩
    | refine ⟨⟨.ret _, _, clone460 _ (by simp) (by simp), ?_⟩⟩
    | refine ⟨⟨.ret _, _, clone360 _ (by simp) (by simp), ?_⟩⟩
    | refine ⟨rfl, ?_⟩
    | refine ⟨_, rfl, ?_⟩
    | exact rfl)
end Go.Fw
namespace Go.Fw
open Go Go.Proofs.Tryz
variable {I : CallRel}
set_option maxRecDepth 100000 in
theorem al364e : PCX I 364 [.junk, .one (.pv [.sl []] 0), .one (.pv [.v (vI 0)] 0)] [] (.ret (.tup [])) [] := by
  refine pcall_intro func364 rfl rfl ?_
  repeat' ((conv => whnf) <;> first
    | refine wpB_t rfl ?_
    | refine wpB_f rfl ?_
    | refine wpLen_i ?_
    | refine wpN_e (n := 0) rfl ?_
    | refine wpN_e (n := 1) rfl ?_
    | refine wpN_e (n := 2) rfl ?_
    | refine wpN_e (n := 3) rfl ?_
    | refine wpN_e (n := 4) rfl ?_
    | refine wpN_e (n := 5) rfl ?_
    | refine wpN_e (n := 6) rfl ?_
    | refine wpN_e (n := 7) rfl ?_
    | refine wpN_e (n := 8) rfl ?_
    | refine wpN_e (n := 9) rfl ?_
    | refine wpN_e (n := 10) rfl ?_
    | refine wpN_e (n := 11) rfl ?_
    | refine wpN_e (n := 12) rfl ?_
    | refine wpN_e (n := 13) rfl ?_
    | refine wpN_e (n := -1) rfl ?_
    | refine wpN_e (n := 100) rfl ?_
    | refine wpN_e (n := 1099511627776) rfl ?_
    | refine loop_unroll' ?_
    | refine wpRegD_i rfl ?_
    | refine wpSide_i ⟨rfl, trivial⟩ ?_
    | refine wpSide_i trivial ?_
    | refine wpSide_i (by decide) ?_
    | refine wpSide_i (by simp) ?_
    | refine wpSide_i (by constructor <;> decide) ?_
    | refine wpIdx_i (n := 0) rfl rfl rfl ?_
    | refine wpIdx_i (n := 1) rfl rfl rfl ?_
    | refine wpIdx_i (n := 2) rfl rfl rfl ?_
    | refine wpIdx_i (n := 3) rfl rfl rfl ?_
    | refine wpIdx_i (n := 4) rfl rfl rfl ?_
    | refine wpIdx_i (n := 5) rfl rfl rfl ?_
    | refine wpIdx_i (n := 6) rfl rfl rfl ?_
    | refine wpIdx_i (n := 7) rfl rfl rfl ?_
    | refine wpIdx_i (n := 8) rfl rfl rfl ?_
    | refine wpIdx_i (n := 9) rfl rfl rfl ?_
    | refine wpIdx_i (n := 10) rfl rfl rfl ?_
    | refine wpIdx_i (n := 11) rfl rfl rfl ?_
    | refine wpIdx_i (n := 12) rfl rfl rfl ?_
    | refine wpIdx_i (n := 13) rfl rfl rfl ?_
    | refine ⟨rfl, ?_⟩
    | refine ⟨_, rfl, ?_⟩
    | exact rfl)
set_option maxRecDepth 100000 in
theorem tell85 (ht : TOK Pr cfg.T) (hm : Pr.follows .mixedOrders = true) (hC : ∀ f ar bs out bs', PCX I f ar bs out bs' → Sound Pr cfg.T f ar bs out bs') (hJ : SoundJ Pr cfg.T (Jn cfg Pr (PCX I) 4)) :
    Sound Pr cfg.T 85 [.w (.agg [.p (.v (vI 0)), .p (.sl [])]), .int 0] [] (.ret (.tup [.agg [.p (.v (vI 0)), .p (.sl [])], .one (.p (.sl [])), .one (.p (.v (vI 0)))])) [] := by
  refine range0_sound ht hm hC hJ (Jn_self 4) rfl rfl rfl rfl rfl rfl func85 rfl rfl ?_
  repeat' ((conv => whnf) <;> first
    | refine wpB_t rfl ?_
    | refine wpB_f rfl ?_
    | refine wpLen_i ?_
    | refine wpN_e (n := 0) rfl ?_
    | refine wpN_e (n := 1) rfl ?_
    | refine wpN_e (n := 2) rfl ?_
    | refine wpN_e (n := 3) rfl ?_
    | refine wpN_e (n := 4) rfl ?_
    | refine wpN_e (n := 5) rfl ?_
    | refine wpN_e (n := 6) rfl ?_
    | refine wpN_e (n := 7) rfl ?_
    | refine wpN_e (n := 8) rfl ?_
    | refine wpN_e (n := 9) rfl ?_
    | refine wpN_e (n := 10) rfl ?_
    | refine wpN_e (n := 11) rfl ?_
    | refine wpN_e (n := 12) rfl ?_
    | refine wpN_e (n := 13) rfl ?_
    | refine wpN_e (n := -1) rfl ?_
    | refine wpN_e (n := 100) rfl ?_
    | refine wpN_e (n := 1099511627776) rfl ?_
    | refine loop_unroll' ?_
    | refine wpRegD_i rfl ?_
    | refine wpSide_i ⟨rfl, trivial⟩ ?_
    | refine wpSide_i trivial ?_
    | refine wpSide_i (by decide) ?_
    | refine wpSide_i (by simp) ?_
    | refine wpSide_i (by constructor <;> decide) ?_
    | refine wpIdx_i (n := 0) rfl rfl rfl ?_
    | refine wpIdx_i (n := 1) rfl rfl rfl ?_
    | refine wpIdx_i (n := 2) rfl rfl rfl ?_
    | refine wpIdx_i (n := 3) rfl rfl rfl ?_
    | refine wpIdx_i (n := 4) rfl rfl rfl ?_
    | refine wpIdx_i (n := 5) rfl rfl rfl ?_
    | refine wpIdx_i (n := 6) rfl rfl rfl ?_
    | refine wpIdx_i (n := 7) rfl rfl rfl ?_
    | refine wpIdx_i (n := 8) rfl rfl rfl ?_
    | refine wpIdx_i (n := 9) rfl rfl rfl ?_
    | refine wpIdx_i (n := 10) rfl rfl rfl ?_
    | refine wpIdx_i (n := 11) rfl rfl rfl ?_
    | refine wpIdx_i (n := 12) rfl rfl rfl ?_
    | refine wpIdx_i (n := 13) rfl rfl rfl ?_
    | refine wpCall_r al97e ?_
    | (apply wpCall_r; apply pcall_intro func194 rfl rfl)
    | (apply wpCall_r; apply pcall_intro func210 rfl rfl)
    | (apply wpCall_r; apply pcall_intro func196 rfl rfl)
    | refine ⟨⟨.ret _, _, clone316 _ (by simp) (by simp), ?_⟩⟩
    | refine ⟨⟨.ret _, _, clone188 _ (by simp) (by simp), ?_⟩⟩
    | refine ⟨⟨.ret _, _, clone285 _ (by simp) (by simp), ?_⟩⟩
    | refine ⟨⟨.ret _, _, clone195 _ (by simp) (by simp), ?_⟩⟩
    | refine ⟨⟨.ret _, _, clone460 _ (by simp) (by simp), ?_⟩⟩
    | refine ⟨⟨.ret _, _, clone360 _ (by simp) (by simp), ?_⟩⟩
    | refine ⟨⟨_, _, _, rfl, al364e, rfl, fun D => ?_⟩⟩
    | refine ⟨rfl, ?_⟩
    | refine ⟨_, rfl, ?_⟩
    | exact rfl)
end Go.Fw
namespace Go.Fw
open Go Go.Proofs.Tryz
variable {I : CallRel}
def tellA : List AV := [.w (.agg [.p (.v (vI 0)), .p (.sl [])]), .int 0]
def tellR : Out := .ret (.tup [.agg [.p (.v (vI 0)), .p (.sl [])], .one (.p (.sl [])), .one (.p (.v (vI 0)))])
set_option maxRecDepth 100000 in
theorem step24c (hT : PCX I 85 [.w (.agg [.p (.v (vI 0)), .p (.sl [])]), .int 0] [] (.ret (.tup [.agg [.p (.v (vI 0)), .p (.sl [])], .one (.p (.sl [])), .one (.p (.v (vI 0)))])) []) :
    PCX I 24 [.w (.agg [.p (.sl []), .p (.sl []), .p (.sl []), .p (.sl []), .p (.sl []), .p (.sl []), .p (.v (vI 0)), .p (.sl []), .p (.v (vI 0)), .p (.v (vI 0))]), .w (.agg [.p (.v (vI 1)), .p (.v (vS [99, 117, 112])), .p (.v (vS [])), .p (.v (vI 0)), .p (.v (vI 0)), .p (.v (vI 0)), .p (.v (vI 0)), .p (.v (vI 0)), .p (.v (vI 0)), .p (.v (.bool false))])] [] (.ret (.tup [.agg [.p (.sl [[vS [99, 117, 112]]]), .p (.sl []), .p (.sl []), .p (.sl []), .p (.sl []), .p (.sl []), .p (.v (vI 0)), .p (.sl []), .p (.v (vI 0)), .p (.v (vI 0))], .agg [.p (.v (vI 0)), .p (.v (vI 0)), .p (.sl []), .p (.sl []), .p (.sl [])], .one (.p (.v (vI 0)))])) [] := by
  refine pcall_intro func24 rfl rfl ?_
  repeat' ((conv => whnf) <;> first
    | refine wpB_t rfl ?_
    | refine wpB_f rfl ?_
    | refine wpLen_i ?_
    | refine wpN_e (n := 0) rfl ?_
    | refine wpN_e (n := 1) rfl ?_
    | refine wpN_e (n := 2) rfl ?_
    | refine wpN_e (n := 3) rfl ?_
    | refine wpN_e (n := 4) rfl ?_
    | refine wpN_e (n := 5) rfl ?_
    | refine wpN_e (n := 6) rfl ?_
    | refine wpN_e (n := 7) rfl ?_
    | refine wpN_e (n := 8) rfl ?_
    | refine wpN_e (n := 9) rfl ?_
    | refine wpN_e (n := 10) rfl ?_
    | refine wpN_e (n := 11) rfl ?_
    | refine wpN_e (n := 12) rfl ?_
    | refine wpN_e (n := 13) rfl ?_
    | refine wpN_e (n := -1) rfl ?_
    | refine wpN_e (n := 100) rfl ?_
    | refine wpN_e (n := 1099511627776) rfl ?_
    | refine loop_unroll' ?_
    | refine wpRegD_i rfl ?_
    | refine wpSide_i ⟨rfl, trivial⟩ ?_
    | refine wpSide_i trivial ?_
    | refine wpSide_i (by decide) ?_
    | refine wpSide_i (by simp) ?_
    | refine wpSide_i (by constructor <;> decide) ?_
    | refine wpIdx_i (n := 0) rfl rfl rfl ?_
    | refine wpIdx_i (n := 1) rfl rfl rfl ?_
    | refine wpIdx_i (n := 2) rfl rfl rfl ?_
    | refine wpIdx_i (n := 3) rfl rfl rfl ?_
    | refine wpIdx_i (n := 4) rfl rfl rfl ?_
    | refine wpIdx_i (n := 5) rfl rfl rfl ?_
    | refine wpIdx_i (n := 6) rfl rfl rfl ?_
    | refine wpIdx_i (n := 7) rfl rfl rfl ?_
    | refine wpIdx_i (n := 8) rfl rfl rfl ?_
    | refine wpIdx_i (n := 9) rfl rfl rfl ?_
    | refine wpIdx_i (n := 10) rfl rfl rfl ?_
    | refine wpIdx_i (n := 11) rfl rfl rfl ?_
    | refine wpIdx_i (n := 12) rfl rfl rfl ?_
    | refine wpIdx_i (n := 13) rfl rfl rfl ?_
    | refine wpCall_r al27e ?_
    | refine wpCall_r al35c ?_
    | refine wpCall_r al346c ?_
    | refine wpCall_r al83c ?_
    | refine wpCall_r al84c ?_
    | refine wpCall_r hT ?_
    | refine wpInl_i func82 rfl rfl ?_
    | refine wpInl_i func176 rfl rfl ?_
    | refine ⟨⟨.ret _, _, clone316 _ (by simp) (by simp), ?_⟩⟩
    | refine ⟨⟨.ret _, _, clone188 _ (by simp) (by simp), ?_⟩⟩
    | refine ⟨⟨.ret _, _, clone285 _ (by simp) (by simp), ?_⟩⟩
    | refine ⟨⟨.ret _, _, clone195 _ (by simp) (by simp), ?_⟩⟩
    | refine ⟨⟨.ret _, _, clone460 _ (by simp) (by simp), ?_⟩⟩
    | refine ⟨⟨.ret _, _, clone360 _ (by simp) (by simp), ?_⟩⟩
    | refine ⟨rfl, ?_⟩
    | refine ⟨_, rfl, ?_⟩
    | exact rfl)
end Go.Fw
namespace Go.Fw
open Go Go.Proofs.Tryz
variable {I : CallRel}
set_option maxRecDepth 100000 in
theorem alive28 (hT : PCX I 85 [.w (.agg [.p (.v (vI 0)), .p (.sl [])]), .int 0] [] (.ret (.tup [.agg [.p (.v (vI 0)), .p (.sl [])], .one (.p (.sl [])), .one (.p (.v (vI 0)))])) []) :
    PCX I 28 [] [] (.ret (AV.bool true)) [] := by
  refine pcall_intro func28 rfl rfl ?_
  repeat' ((conv => whnf) <;> first
    | refine wpB_t rfl ?_
    | refine wpB_f rfl ?_
    | refine wpLen_i ?_
    | refine wpN_e (n := 0) rfl ?_
    | refine wpN_e (n := 1) rfl ?_
    | refine wpN_e (n := 2) rfl ?_
    | refine wpN_e (n := 3) rfl ?_
    | refine wpN_e (n := 4) rfl ?_
    | refine wpN_e (n := 5) rfl ?_
    | refine wpN_e (n := 6) rfl ?_
    | refine wpN_e (n := 7) rfl ?_
    | refine wpN_e (n := 8) rfl ?_
    | refine wpN_e (n := 9) rfl ?_
    | refine wpN_e (n := 10) rfl ?_
    | refine wpN_e (n := 11) rfl ?_
    | refine wpN_e (n := 12) rfl ?_
    | refine wpN_e (n := 13) rfl ?_
    | refine wpN_e (n := -1) rfl ?_
    | refine wpN_e (n := 100) rfl ?_
    | refine wpN_e (n := 1099511627776) rfl ?_
    | refine loop_unroll' ?_
    | refine wpRegD_i rfl ?_
    | refine wpSide_i ⟨rfl, trivial⟩ ?_
    | refine wpSide_i trivial ?_
    | refine wpSide_i (by decide) ?_
    | refine wpSide_i (by simp) ?_
    | refine wpSide_i (by constructor <;> decide) ?_
    | refine wpIdx_i (n := 0) rfl rfl rfl ?_
    | refine wpIdx_i (n := 1) rfl rfl rfl ?_
    | refine wpIdx_i (n := 2) rfl rfl rfl ?_
    | refine wpIdx_i (n := 3) rfl rfl rfl ?_
    | refine wpIdx_i (n := 4) rfl rfl rfl ?_
    | refine wpIdx_i (n := 5) rfl rfl rfl ?_
    | refine wpIdx_i (n := 6) rfl rfl rfl ?_
    | refine wpIdx_i (n := 7) rfl rfl rfl ?_
    | refine wpIdx_i (n := 8) rfl rfl rfl ?_
    | refine wpIdx_i (n := 9) rfl rfl rfl ?_
    | refine wpIdx_i (n := 10) rfl rfl rfl ?_
    | refine wpIdx_i (n := 11) rfl rfl rfl ?_
    | refine wpIdx_i (n := 12) rfl rfl rfl ?_
    | refine wpIdx_i (n := 13) rfl rfl rfl ?_
    | refine wpCall_r (step24c hT) ?_
    | refine ⟨rfl, ?_⟩
    | refine ⟨_, rfl, ?_⟩
    | exact rfl)
end Go.Fw
namespace Go.Fw
open Go
theorem mixed : Pr.follows .mixedOrders = true := by kernel_rfl
abbrev tellA1 : List AV := [.w (.agg [.p (.v (vI 0)), .p (.sl [])]), .int 0]
abbrev tellO1 : Out := .ret (.tup [.agg [.p (.v (vI 0)), .p (.sl [])], .one (.p (.sl [])), .one (.p (.v (vI 0)))])
/-- Tell on the empty outbox, told from outside. -/
def I1 : CallRel := fun f ar bs out bs' => f = 85 ∧ ar = tellA1 ∧ bs = [] ∧ out = tellO1 ∧ bs' = []
theorem sound0 {f : FuncId} {ar : List AV} {bs : List Blk} {out : Out} {bs' : List Blk} (h : PCX I0 f ar bs out bs') : Sound Pr T f ar bs out bs' :=
  PCall_sound (G := cfg) tok mixed soundJ (fun _ _ _ _ _ h => h.elim) _ _ _ _ _ h
theorem soundI1 : ∀ f ar bs out bs', I1 f ar bs out bs' → Sound Pr T f ar bs out bs' := by
  rintro f ar bs out bs' ⟨rfl, rfl, rfl, rfl, rfl⟩
  exact tell85 (I := I0) tok mixed (fun _ _ _ _ _ h => sound0 h) (Jn_sound (G := cfg) tok mixed soundJ (fun _ _ _ _ _ h => sound0 h) 4)
theorem sound1 {f : FuncId} {ar : List AV} {bs : List Blk} {out : Out} {bs' : List Blk} (h : PCX I1 f ar bs out bs') : Sound Pr T f ar bs out bs' :=
  PCall_sound (G := cfg) tok mixed soundJ soundI1 _ _ _ _ _ h
theorem alive1 : PCX I1 28 [] [] (.ret (AV.bool true)) [] := alive28 (PCall_I ⟨rfl, rfl, rfl, rfl, rfl⟩)
end Go.Fw
