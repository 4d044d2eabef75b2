/- A part of the proof of Rows.ShopBackSaid: what ShopBack answers, whatever the arguments; it stands under no condition. -/
import Derived.Test.YtdehaflkiobnlaaGreatBack04
import Derived.Conc.LoneSelect
import Derived.Lib.UnsafeStr
set_option linter.unusedVariables false
set_option linter.unusedSimpArgs false
set_option linter.unusedSectionVars false
set_option linter.deprecated false
/- Operations that are walked in their order alone run well. -/
namespace Go.Fw
open Go Go.RowKit Go.Lib

section
variable {P : Program} {G : Cfg} (ht : TOK P G.T) {X : Ctx2} {s : St} {a : Act} {w : World} {E : Env} {C : CallRel} {J : Inl} {Pp : Value → Prop} {Qc : Exit → Act → World → Prop} {K : Eff → Prop}

theorem isNone_iff {r : Nat} (h : isNone s r = true) : s.bs r = .none := by
  unfold isNone at h
  split at h
  · assumption
  · cases h

theorem eqNil_run {t e : Nat} (hu : P.underlying t = some (.slice e)) (v : Value) (b : Bool) (hv : (∃ ad n c, v = .slice ad n c ∧ b = ad.isNone)) :
    (binOp .eql t v (.slice none 0 0)).run P w = .ok (.bool b) w ∧ (binOp .neq t v (.slice none 0 0)).run P w = .ok (.bool (!b)) w := by
  obtain ⟨ad, n, c, rfl, rfl⟩ := hv
  have h : ∀ d, (Op.equalIn (d + 1) t (.slice ad n c) (.slice none 0 0)).run P w = .ok ad.isNone w := by
    intro d
    unfold Op.equalIn
    rw [Sem.run_bind, run_underlying hu, Result.andThen_ok]
    cases ad <;> rfl
  have h' : (Op.equal t (.slice ad n c) (.slice none 0 0)).run P w = .ok ad.isNone w := h 9999
  constructor
  · simp only [binOp, Sem.run_bind, h', Result.andThen_ok]; rfl
  · simp only [binOp, Sem.run_bind, h', Result.andThen_ok]; rfl
theorem eqGuard_slice {op : BinOp} {t : TypeId} {x y : Operand} {ad : Option Addr} {n c : Nat} {v : Value} : (eqGuard op t x y (.slice ad n c) v).run P w = .ok () w := by
  unfold eqGuard
  cases op <;> simp

theorem zOK_sound {isB : Bool} {z : Value} (h : zOK isB z = true) : z = encM isB 0 := by
  unfold zOK at h
  split at h
  · rfl
  · rfl
  · cases h
theorem fin_val (o : Oper) {val : Value} {w' : World} {e : Eff} {E' : Env} (hrun : (execOp a.eval o).run P w = .ok (.value val) w') (hK : K e) (hs : Sim G.T X (s.app o.dst e) (a.put o.dst val) w' E') :
    o.upon P a (Nxt G X s o.dst K) Qc ((execOp a.eval o).run P w) := by
  rw [hrun]
  exact ⟨e, E', hK, hs⟩

theorem ofVal_w1 (bs : Nat → Blk) (x : Value) : RW bs w E (w1Of x) x := by
  have := ofVal_ok (w := w) (E := E) bs x
  exact this

theorem eqL_app : ∀ {l m : List (Nat × Nat)}, eqL (l ++ m) → eqL l ∧ eqL m
  | [], _, h => ⟨trivial, h⟩
  | _ :: _, _, h => ⟨⟨h.1, (eqL_app h.2).1⟩, (eqL_app h.2).2⟩
theorem eqL_mem : ∀ {l : List Operand}, eqL (l.flatMap fun x => winE s (s.ev x)) → ∀ x ∈ l, eqL (winE s (s.ev x))
  | y :: l, h, x, hx => by
    rw [List.flatMap_cons] at h
    rcases List.mem_cons.1 hx with rfl | hx
    · exact (eqL_app h).1
    · exact eqL_mem (eqL_app h).2 x hx

include ht

theorem slice_x (hs : Sim G.T X s a w E) (o : Oper) {t : Nat} {x : Operand} {lo hi mx : Option Operand} (ho : o.op = .slice t x lo hi mx) {r : XReq} (hr : evX G s o.op = some r) (hW : eqL (winL s o.op)) (h : r.wp K) : o.upon P a (Nxt G X s o.dst K) Qc ((execOp a.eval o).run P w) := by
  rw [ho] at hr
  simp only [evX] at hr
  have hexec : ∀ {v}, (Instr.sliceAt t (a.eval x) (lo.map a.eval) (hi.map a.eval) (mx.map a.eval)).run P w = .ok v w → (execOp a.eval o).run P w = .ok (.value v) w := by
    intro v hv
    simp [execOp, ho, hv]
  split at hr
  · rename_i e hk
    split at hr
    · rename_i l h' m hlo hhi hmx
      split at hr
      · rename_i r' e' n0 lo0 n ys hwin
        cases hc : (okT G e && Nat.beq e e' && (m.isNone || h'.isSome)) with
        | false => rw [hc] at hr; cases hr
        | true =>
          rw [hc] at hr
          cases hr
          simp only [Bool.and_eq_true] at hc
          have he := Nat.eq_of_beq_eq_true hc.1.2
          subst he
          obtain ⟨hb, hw⟩ := win_sound hs hwin (by rw [ho] at hW; exact hW) (hs.ev x)
          obtain ⟨h1, h2, _⟩ := buf_len hs hb
          obtain ⟨hside, hK⟩ := h
          obtain ⟨val, q1, q2, q3⟩ := sliceX_run ht hs hk hc.1.1 hlo hhi hmx hc.2 h1 hw hside
          refine fin_pure hs o (hexec q1) ?_ hK
          cases m with
          | none =>
            refine ⟨?_, q2⟩
            simp only [RC, hb]
            exact q3 rfl
          | some m => exact RA_junk _ _
      · split at hr
        · rename_i r' n hx
          split at hr
          · rename_i e' xs hb
            cases hc : (okT G e && Nat.beq e e' && (m.isNone || h'.isSome)) with
            | false => rw [hc] at hr; cases hr
            | true =>
              rw [hc] at hr
              cases hr
              simp only [Bool.and_eq_true] at hc
              have he := Nat.eq_of_beq_eq_true hc.1.2
              subst he
              obtain ⟨hn, hop⟩ := h
              have hv : a.eval x = E.sv r' := by
                have h1 := hs.ev x
                rw [hx] at h1
                have h1 := h1.1
                simp only [RC, hb] at h1
                exact h1.2 hn
              rcases hop.h with hop1 | hop2
              · obtain ⟨sp, g1, g2, hs2, hw⟩ := open_step ht hs hb hn
                obtain ⟨hside, hK⟩ := hop1.h sp g1 g2
                have hb2 : ({ s with bs := updL s.bs [(r', .buf e n (xs ++ sp))] } : St).bs r' = .buf e n (xs ++ sp) := upd_same _ _ _
                obtain ⟨h1, h2, _⟩ := buf_len hs2 hb2
                obtain ⟨val, q1, q2, q3⟩ := sliceX_run (s := { s with bs := updL s.bs [(r', .buf e n (xs ++ sp))] }) ht hs2 hk hc.1.1 hlo hhi hmx hc.2 h1 (y := E.sv r') hw hside
                rw [← hv] at q1
                rw [hexec q1]
                refine ⟨_, E, hK, sim_app_nil (hs2.pure o.dst ?_)⟩
                cases m with
                | none =>
                  refine ⟨?_, q2⟩
                  show RC (updL s.bs [(r', .buf e n (xs ++ sp))]) w E (.win r' _ _) val
                  have hb3 : updL s.bs [(r', .buf e n (xs ++ sp))] r' = .buf e n (xs ++ sp) := hb2
                  simp only [RC, hb3]
                  exact q3 rfl
                | some m => exact RA_junk _ _
              · cases hq : (m.isNone && Nat.ble s.lo r') with
                | false => rw [hq] at hop2; exact hop2.l.elim
                | true =>
                  rw [hq] at hop2
                  clear hop
                  simp only [Bool.and_eq_true] at hq
                  have hmn : m = none := by simpa using hq.1
                  subst hmn
                  have hlor := Nat.le_of_ble_eq_true hq.2
                  rcases hop2.h with hop | hop
                  · obtain ⟨hc3, hK⟩ := hop
                    have hfx := hs.fix (rs := [r']) (fun r hr => by simp only [List.mem_singleton] at hr; subst hr; exact .inl ⟨e, xs, false, hb⟩) (by simp [hq.2])
                    have hfb : fixB s r' = .vec e xs true := by simp [fixB, hb]
                    have hB := hs.bl.blk r'
                    rw [hb] at hB
                    have hsl := vec_RSl (F1 := fun b => E.F b ∨ ∃ r ∈ [r'], blkOf s.bs E r = some b) hB (fun b hb' => .inr ⟨r', by simp, by simp [blkOf, hb, hb']⟩)
                    obtain ⟨val, q1, q2, q3⟩ := sliceP_run ht hs hk hc.1.1 hlo hhi hmx hsl (fun es hes => (hB.1 es hes).1) hn hc3
                    rw [← hv] at q1
                    rw [hexec q1]
                    have hfx' : Sim G.T X { s with bs := updL s.bs [(r', .vec e xs true)] } a w ⟨E.σ, E.sv, fun b => E.F b ∨ ∃ r ∈ [r'], blkOf s.bs E r = some b⟩ := by
                      rw [← hfb]; exact hfx
                    exact ⟨_, _, hK, sim_app_nil (hfx'.pure o.dst (v := .sl ((xs.take (h'.getD n).toNat).drop (l.getD 0).toNat)) ⟨q3, q2⟩)⟩
                  · cases hq2 : (isNone s s.nx && !Nat.beq r' s.nx) with
                    | false => rw [hq2] at hop; exact hop.l.elim
                    | true =>
                      rw [hq2] at hop
                      simp only [Bool.and_eq_true, Bool.not_eq_true'] at hq2
                      obtain ⟨hc3, hK⟩ := hop
                      have hne : r' ≠ s.nx := fun h => by rw [h, Nat.beq_refl] at hq2; cases hq2.2
                      obtain ⟨val, E', q1, q2⟩ := trunc_step ht hs hk hc.1.1 hlo hhi hmx hb hn (isNone_iff hq2.1) hlor hne hc3 o.dst
                      rw [← hv] at q1
                      rw [hexec q1]
                      exact ⟨_, _, hK, q2⟩
          · rename_i e' xs hb
            cases hc : (okT G e && Nat.beq e e' && m.isNone) with
            | false => rw [hc] at hr; cases hr
            | true =>
              rw [hc] at hr
              cases hr
              simp only [Bool.and_eq_true] at hc
              have he := Nat.eq_of_beq_eq_true hc.1.2
              subst he
              have hmn : m = none := by simpa using hc.2
              subst hmn
              obtain ⟨hn, hc3, hK⟩ := h
              have hv : a.eval x = E.sv r' := by
                have h1 := hs.ev x
                rw [hx] at h1
                have h1 := h1.1
                simp only [RC, hb] at h1
                exact h1.2 hn
              have hB := hs.bl.blk r'
              rw [hb] at hB
              have hsl := vec_RSl hB (hB.2.2.2.2 rfl)
              obtain ⟨val, q1, q2, q3⟩ := sliceP_run ht hs hk hc.1.1 hlo hhi hmx hsl (fun es hes => (hB.1 es hes).1) hn hc3
              rw [← hv] at q1
              exact fin_pure hs o (v := .sl ((xs.take (h'.getD n).toNat).drop (l.getD 0).toNat)) (hexec q1) ⟨q3, q2⟩ hK
          · cases hr
        · rename_i hx
          split at hr
          · cases hok : okT G e with
            | false => rw [hok] at hr; cases hr
            | true =>
              rw [hok] at hr
              cases hr
              obtain ⟨⟨c1, c2⟩, hK⟩ := h
              have hv : a.eval x = .slice none 0 0 := by
                have h1 := hs.ev x
                rw [hx] at h1
                exact h1.1
              have hmn : m = none := by
                cases m with
                | none => rfl
                | some m => simp [optI] at hmx
              subst hmn
              have hw : RWin [] none 0 0 (.slice none 0 0) := ⟨by simp, none, rfl, fun _ => ⟨0, by simp, rfl⟩⟩
              obtain ⟨val, q1, q2, q3⟩ := sliceX_run ht hs hk hok hlo hhi hmx (by simp) (ys := []) (by simp) hw ⟨by simp, by rw [c1]; exact Int.le_refl _, by show l.getD 0 ≤ h'.getD 0; rw [c1, c2]; exact Int.le_refl _, by show h'.getD 0 ≤ (0 : Int); rw [c2]; exact Int.le_refl _⟩
              have hwv := q3 rfl
              rw [← hv] at q1
              refine fin_pure hs o (hexec q1) ?_ hK
              obtain ⟨_, ad, g1, g2⟩ := hwv
              obtain ⟨k, _, g3⟩ := g2 (.inr (by rw [c1]; rfl))
              have e1 : (h'.getD ((0 : Nat) : Int) - l.getD 0).toNat = 0 := by show (h'.getD 0 - l.getD 0).toNat = 0; rw [c1, c2]; rfl
              have e2 : (0 + (l.getD 0).toNat) = 0 := by rw [c1]; rfl
              rw [e1] at g1
              exact ⟨by show val = _; rw [g1, g3]; simp, q2⟩
          · cases hr
        · cases hr
    · cases hr
  · cases hr

theorem call_x (hs : Sim G.T X s a w E) (o : Oper) {c : Call} (ho : o.op = .call c) {r : XReq} (hr : evX G s o.op = some r) (hW : eqL (winL s o.op)) (h : r.wp K) : o.upon P a (Nxt G X s o.dst K) Qc ((execOp a.eval o).run P w) := by
  have hWa : ∀ x ∈ c.args.toList, eqL (winE s (s.ev x)) := by
    rw [ho] at hW
    exact eqL_mem hW
  rw [ho] at hr
  simp only [evX] at hr
  split at hr
  · -- len
    rename_i x t hc e1 e2
    obtain ⟨x', e1', rfl⟩ : ∃ x', c.args = #[x'] ∧ s.ev x' = x := by
      have : c.args.toList.length = 1 := by have := congrArg List.length e1; simpa using this
      match hh : c.args.toList, this with
      | [x'], _ => rw [hh] at e1; simp at e1; exact ⟨x', by rw [← Array.toList_inj]; simp [hh], e1⟩
    have et : c.argTypes = #[t] := by rw [← Array.toList_inj]; simp [e2]
    split at hr
    · rename_i hk hwin
      rename_i e r' e' n0 lo n ys
      cases hr
      obtain ⟨⟨c1, c2⟩, hK⟩ := h
      obtain ⟨hb, hw⟩ := win_sound hs hwin (hWa x' (by simp [e1'])) (hs.ev x')
      obtain ⟨_, ad, g2, _⟩ := hw
      refine fin_pure hs o (val := .int .i64 n) ?_ (RA_val_mk _ rfl) hK
      simp [execOp, ho, resolve, hc, invoke, builtin, e1', et, g2, Builtin.len_, run_underlying (ht.slice hk), goInt]
    · rename_i e r' n hk hw0 hx
      split at hr
      · rename_i cs hb
        cases hr
        have hv : a.eval x' = .slice (some ⟨E.σ r', 0, none⟩) n n := by
          have h1 := hs.ev x'
          rw [hx] at h1
          have h1 := h1.1
          simp only [RC, hb] at h1
          exact h1
        refine fin_pure hs o (val := .int .i64 n) ?_ (RA_val_mk _ rfl) h
        simp [execOp, ho, resolve, hc, invoke, builtin, e1', et, hv, Builtin.len_, run_underlying (ht.slice hk), goInt]
      · cases hr
    · rename_i kt e r' hk hw0 hx
      split at hr
      · rename_i kk isB m st hb
        cases hr
        have hv := mp_val hs hx (.inr ⟨kk, isB, m, st, hb⟩)
        have hB := hs.bl.blk r'
        rw [hb] at hB
        obtain ⟨es, clock, hh, hA, _⟩ := hB
        have hl : es.size = m.length := by rw [hA.length]; simp
        refine fin_pure hs o (val := .int .i64 m.length) ?_ (RA_val_mk _ rfl) h
        simp [execOp, ho, resolve, hc, invoke, builtin, e1', et, hv, Builtin.len_, run_underlying (ht.map hk), MapKept.run_getObj_map hh, goInt, hl]
      · cases hr
    · cases hr
  · -- cap
    rename_i x t hc e1 e2
    obtain ⟨x', e1', rfl⟩ : ∃ x', c.args = #[x'] ∧ s.ev x' = x := by
      have : c.args.toList.length = 1 := by have := congrArg List.length e1; simpa using this
      match hh : c.args.toList, this with
      | [x'], _ => rw [hh] at e1; simp at e1; exact ⟨x', by rw [← Array.toList_inj]; simp [hh], e1⟩
    have et : c.argTypes = #[t] := by rw [← Array.toList_inj]; simp [e2]
    split at hr
    · rename_i e r' e' n0 lo n ys hk hwin
      cases hr
      obtain ⟨c1, hK⟩ := h
      obtain ⟨hb, hw⟩ := win_sound hs hwin (hWa x' (by simp [e1'])) (hs.ev x')
      obtain ⟨_, ad, g2, _⟩ := hw
      refine fin_pure hs o (val := .int .i64 (ys.length - lo : Nat)) ?_ (RA_val_mk _ rfl) hK
      simp [execOp, ho, resolve, hc, invoke, builtin, e1', et, g2, Builtin.cap_, run_underlying (ht.slice hk), goInt]
    · rename_i e hk hwin
      split at hr
      · rename_i hx
        cases hr
        have hv : a.eval x' = .slice none 0 0 := by
          have h1 := hs.ev x'
          rw [hx] at h1
          exact h1.1
        refine fin_pure hs o (val := .int .i64 0) ?_ (RA_val_mk _ rfl) h
        simp [execOp, ho, resolve, hc, invoke, builtin, e1', et, hv, Builtin.cap_, run_underlying (ht.slice hk), goInt]
      · cases hr
    · cases hr
  · -- delete
    rename_i x k t t2 hc e1 e2
    obtain ⟨x', k', e1', rfl, rfl⟩ : ∃ x' k', c.args = #[x', k'] ∧ s.ev x' = x ∧ s.ev k' = k := by
      have : c.args.toList.length = 2 := by have := congrArg List.length e1; simpa using this
      match hh : c.args.toList, this with
      | [x', k'], _ => rw [hh] at e1; simp at e1; exact ⟨x', k', by rw [← Array.toList_inj]; simp [hh], e1.1, e1.2⟩
    have et : c.argTypes = #[t, t2] := by rw [← Array.toList_inj]; simp [e2]
    split at hr
    · rename_i kt et' r' hk hx
      split at hr
      · rename_i kk isB m st hb
        split at hr
        · rename_i k kk' hkey hkind
          cases hq : Nat.beq kk kk' with
          | false => rw [hq] at hr; cases hr
          | true =>
            rw [hq] at hr
            cases hr
            have := Nat.eq_of_beq_eq_true hq
            subst this
            have hv := mp_val hs hx (.inr ⟨kk, isB, m, st, hb⟩)
            obtain ⟨hkv, hkk⟩ := keyOf_sound hs hkey
            obtain ⟨w', q1, q2⟩ := mdel_sound ht hs (ty := o.type) (t2 := t2) hb hk hkind hkk o.dst s.nx
            refine fin_val o ?_ h q2
            simp [execOp, ho, resolve, hc, invoke, builtin, e1', et, hv, hkv, q1]
        · cases hr
      · cases hr
    · cases hr
  · -- append
    rename_i x y t u hc e1 e2
    obtain ⟨x', y', e1', rfl, rfl⟩ : ∃ x' k', c.args = #[x', k'] ∧ s.ev x' = x ∧ s.ev k' = y := by
      have : c.args.toList.length = 2 := by have := congrArg List.length e1; simpa using this
      match hh : c.args.toList, this with
      | [x', k'], _ => rw [hh] at e1; simp at e1; exact ⟨x', k', by rw [← Array.toList_inj]; simp [hh], e1.1, e1.2⟩
    have et : c.argTypes = #[t, u] := by rw [← Array.toList_inj]; simp [e2]
    split at hr
    · rename_i e r' e' n0 lo n ys hk hwin
      cases hcond : (okT G e && Nat.beq e e' && isNone s s.nx && Nat.beq lo 0) with
      | false => rw [hcond] at hr; cases hr
      | true =>
        rw [hcond] at hr
        simp only [cond_true] at hr
        simp only [Bool.and_eq_true] at hcond
        obtain ⟨⟨⟨c1, c2⟩, c3⟩, c4⟩ := hcond
        have := Nat.eq_of_beq_eq_true c2
        subst this
        have := Nat.eq_of_beq_eq_true c4
        subst this
        have hnx := isNone_iff c3
        obtain ⟨hb, hw⟩ := win_sound hs hwin (hWa x' (by simp [e1'])) (hs.ev x')
        split at hr
        · rename_i e2' hk2
          split at hr
          · rename_i zs p hrow
            cases hq : (Nat.beq e e2' && Nat.beq t u) with
            | false => rw [hq] at hr; cases hr
            | true =>
              rw [hq] at hr
              cases hr
              simp only [Bool.and_eq_true] at hq
              have := Nat.eq_of_beq_eq_true hq.1
              subst this
              have := Nat.eq_of_beq_eq_true hq.2
              subst this
              have hy := rowX_sound hs hrow h.l.1 (hWa y' (by simp [e1'])) (hs.ev y')
              obtain ⟨v', w', e', E', q1, q2, q3⟩ := appendX_sound ht hs o.type hk c1 hnx hb hw hy o.dst h
              refine fin_val o ?_ q2 q3
              simp [execOp, ho, resolve, hc, invoke, builtin, e1', et, q1]
          · cases hr
        · rename_i hk2
          split at hr
          · rename_i k z hint hz
            cases hr
            obtain ⟨⟨d1, d2, d3, d4, d5, d6⟩, hK⟩ := h
            obtain ⟨kn, hkn⟩ := intOf_sound hs hint
            obtain ⟨z1, z2, z3⟩ := zeroEs_sound ht hs c1 hz
            have ek : ((k.toNat : Nat) : Int) = k := by omega
            obtain ⟨v', w', E', q1, q2⟩ := appendZ_sound ht hs o.type hk (ht.int hk2) c1 hnx hb hw z1 z2 d2 d3 d4 d5 d6 o.dst (kn := kn)
            refine fin_val o ?_ hK q2
            rw [ek] at q1
            simp [execOp, ho, resolve, hc, invoke, builtin, e1', et, hkn, q1]
          · cases hr
        · cases hr
    · rename_i e hk hwin
      split at hr
      · rename_i k z hx hk2 hint hz
        cases hcond : (okT G e && isNone s s.nx) with
        | false => rw [hcond] at hr; cases hr
        | true =>
          rw [hcond] at hr
          cases hr
          simp only [Bool.and_eq_true] at hcond
          obtain ⟨⟨d1, d2, d3⟩, hK⟩ := h
          obtain ⟨kn, hkn⟩ := intOf_sound hs hint
          obtain ⟨z1, z2, z3⟩ := zeroEs_sound ht hs hcond.1 hz
          have ek : ((k.toNat : Nat) : Int) = k := by omega
          have hv : a.eval x' = .slice none 0 0 := by
            have h1 := hs.ev x'
            rw [hx] at h1
            exact h1.1
          obtain ⟨v', w', E', q1, q2⟩ := appendN_sound ht hs o.type hk (ht.int hk2) hcond.1 (isNone_iff hcond.2) hv z1 z2 (by omega) d2 d3 o.dst (kn := kn)
          refine fin_val o ?_ hK q2
          rw [ek] at q1
          simp [execOp, ho, resolve, hc, invoke, builtin, e1', et, hkn, q1]
      · cases hr
    · cases hr
  · -- copy
    rename_i x y t u hc e1 e2
    obtain ⟨x', y', e1', rfl, rfl⟩ : ∃ x' k', c.args = #[x', k'] ∧ s.ev x' = x ∧ s.ev k' = y := by
      have : c.args.toList.length = 2 := by have := congrArg List.length e1; simpa using this
      match hh : c.args.toList, this with
      | [x', k'], _ => rw [hh] at e1; simp at e1; exact ⟨x', k', by rw [← Array.toList_inj]; simp [hh], e1.1, e1.2⟩
    have et : c.argTypes = #[t, u] := by rw [← Array.toList_inj]; simp [e2]
    split at hr
    · rename_i e e2' r' e' n0 lo n ys hk hk2 hwin
      split at hr
      · rename_i zs p hrow
        cases hcond : (okT G e && Nat.beq e e' && Nat.beq e e2') with
        | false => rw [hcond] at hr; cases hr
        | true =>
          rw [hcond] at hr
          cases hr
          simp only [Bool.and_eq_true] at hcond
          obtain ⟨⟨c1, c2⟩, c3⟩ := hcond
          have := Nat.eq_of_beq_eq_true c2
          subst this
          obtain ⟨⟨d1, d2, d3⟩, hK⟩ := h
          obtain ⟨hb, hw⟩ := win_sound hs hwin (hWa x' (by simp [e1'])) (hs.ev x')
          have hy := rowX_sound hs hrow d1 (hWa y' (by simp [e1'])) (hs.ev y')
          obtain ⟨w', q1, q2⟩ := copyX_sound ht hs (t2 := u) (ty := o.type) hk c1 hb hw hy d3 o.dst
          refine fin_val o ?_ hK q2
          simp [execOp, ho, resolve, hc, invoke, builtin, e1', et, q1]
      · cases hr
    · cases hr
  · -- close
    rename_i x hc e1
    obtain ⟨x', e1', rfl⟩ : ∃ x', c.args = #[x'] ∧ s.ev x' = x := by
      have : c.args.toList.length = 1 := by have := congrArg List.length e1; simpa using this
      match hh : c.args.toList, this with
      | [x'], _ => rw [hh] at e1; simp at e1; exact ⟨x', by rw [← Array.toList_inj]; simp [hh], e1⟩
    split at hr
    · rename_i r' hx
      split at hr
      · rename_i cap buf hb
        cases hr
        have hv : a.eval x' = .chan (some (E.σ r')) := by
          have h1 := hs.ev x'
          rw [hx] at h1
          have h1 := h1.1
          simp only [RC, hb] at h1
          exact h1
        have hB := hs.bl.blk r'
        rw [hb] at hB
        obtain ⟨q0, sn, rc, hh⟩ := hB
        have hlt : E.σ r' < w.heap.size := (Array.getElem?_eq_some_iff.1 hh).1
        have hcl := run_close_open (P := P) c.argTypes o.type hh
        have hrun : (execOp a.eval o).run P w = .ok (.value (.tuple #[])) { w with heap := w.heap.setIfInBounds (E.σ r') (.chan cap buf.toArray true sn rc false) } := by
          simp [execOp, ho, resolve, hc, invoke, builtin, e1', hv, hcl]
        rw [hrun]
        have hmr : mblk s.bs E r' = some (E.σ r') := by simp [mblk, hb]
        refine ⟨_, E, h, one_step (b' := .chan cap buf true) (E' := E) (w' := { w with heap := w.heap.setIfInBounds (E.σ r') (.chan cap buf.toArray true sn rc false) }) hs (fun _ _ => ⟨rfl, rfl⟩) rfl (fun _ => by rw [upd_same]; exact ⟨⟨cap, buf, false, hb⟩, rfl⟩) rfl rfl rfl (by simp)
          (fun k _ hne => Array.getElem?_setIfInBounds_ne (Ne.symm fun e => hne (by rw [e]; exact hmr.symm))) (fun _ => ⟨q0, sn, rc, by simp [hlt]⟩) (fun b hb' => ?_) o.dst _ ⟨_, rfl, trivial⟩⟩
        simp only [mblk, upd_same, Option.some.injEq] at hb'
        subst hb'
        exact ⟨.inl hmr.symm, by simpa using hlt⟩
      · cases hr
    · cases hr
  · -- unsafe.String
    rename_i x y t u hc e1 e2
    obtain ⟨x', y', e1', rfl, rfl⟩ : ∃ x' y', c.args = #[x', y'] ∧ s.ev x' = x ∧ s.ev y' = y := by
      have : c.args.toList.length = 2 := by have := congrArg List.length e1; simpa using this
      match hh : c.args.toList, this with
      | [x', y'], _ => rw [hh] at e1; simp at e1; exact ⟨x', y', by rw [← Array.toList_inj]; simp [hh], e1.1, e1.2⟩
    have et : c.argTypes = #[t, u] := by rw [← Array.toList_inj]; simp [e2]
    split at hr
    · rename_i r' m n e hx hy hk
      split at hr
      · rename_i e' xs hb hk8
        cases hq : (Nat.beq e e' && Nat.beq (sizeT G e) 1) with
        | false => rw [hq] at hr; cases hr
        | true =>
          rw [hq] at hr
          cases hr
          simp only [Bool.and_eq_true] at hq
          have he := Nat.eq_of_beq_eq_true hq.1
          subst he
          have hsz : (G.T e).size = 1 := Nat.eq_of_beq_eq_true hq.2
          obtain ⟨⟨c1, c2, c3⟩, ⟨l, rfl, hK⟩⟩ := h
          have hyv : a.eval y' = .int .i64 n := by
            have h1 := hs.ev y'
            rw [hy] at h1
            exact RA_val h1
          obtain ⟨g, hg, hxv⟩ := vptr_val ht hs hb c1 (by have := hs.ev x'; rw [hx] at this; exact this) c3
          have hB := hs.bl.blk r'
          rw [hb] at hB
          obtain ⟨b1, b2, b3, ho', _⟩ := hB
          have hl0 : l ≠ [] := by intro e; subst e; exact c3 rfl
          have hbl : (byteRow l).length = l.length := by simp [byteRow]
          have hee : (G.T e).k ≠ .other := by rw [hk8]; simp
          have hcell : P.cellsOf e = 1 := by
            obtain ⟨i, hi, his, _⟩ := ht.info2 hee
            simp [Program.cellsOf, hi, his, hsz]
          have hpt : P.underlying t = some (.pointer e) := by
            have h1 := (ht t (by rw [hk]; simp)).1
            rw [hk] at h1
            unfold tkOf at h1
            split at h1 <;> simp_all
          rcases ho'.2 with ⟨_, q2⟩ | ⟨g', cap, cur, q1, q2, q3, q4, q5, q6, q7⟩
          · rw [hbl] at q2; exact absurd (List.eq_nil_of_length_eq_zero q2) hl0
          · have hgg : g' = g := by rw [q1] at hg; simpa [Value.ownBlock] using hg
            subst hgg
            have hm : n = l.length := by rw [c2, ← c1, hbl]
            rw [hsz] at q6 q7
            have hrun0 := run_unsafeString_row (P := P) w t u o.type e hpt hcell g' cur.size (by simp [World.shape?, q3]) l hl0 (by rw [q6, ← hbl]; omega) (by rw [← hbl]; omega) (fun j x hx => by
              have := ho'.cells (g := g') (by rw [q1]; rfl) j (.int .u8 x.toNat) (by
                have e3 : (byteRow l).flatten = l.map fun c => Value.int .u8 c.toNat := byteRow_flat l
                rw [e3]; simp [hx])
              exact this)
            have hrun : (execOp a.eval o).run P w = .ok (.value (.string ⟨l.toArray⟩)) (w.freeze ⟨g', 0, none⟩ l.length) := by
              have hx2 : a.eval x' = .pointer (some ⟨g', 0, none⟩) := by rw [hxv]; simp
              have hy2 : a.eval y' = .int .i64 l.length := by
                rw [hyv, hm]
              simp [execOp, ho, resolve, hc, invoke, builtin, e1', et, hx2, hy2, hrun0]
            rw [hrun]
            have hl2 : l.length ≠ 0 := fun e => hl0 (List.eq_nil_of_length_eq_zero e)
            have hmr : mblk s.bs E r' = some g' := by simp [mblk, hb, hg]
            have hfz : w.freeze ⟨g', 0, none⟩ l.length = { w with heap := (w.freeze ⟨g', 0, none⟩ l.length).heap } := by unfold World.freeze; rw [if_neg hl2]
            refine ⟨_, E, hK, one_step (b' := .dead) (E' := E) (w' := w.freeze ⟨g', 0, none⟩ l.length) hs (fun _ _ => ⟨rfl, rfl⟩) rfl (fun _ => by rw [upd_same]; trivial) (by rw [hfz]) (by rw [hfz]) (by rw [hfz]) (by unfold World.freeze; rw [if_neg hl2]; simp)
              (fun k _ hne => ?_) (fun _ => trivial) (fun b h => by simp [mblk, upd_same] at h) o.dst _ ⟨rfl, rfl⟩⟩
            have hkg : k ≠ g' := fun e => hne (by rw [e]; exact hmr.symm)
            unfold World.freeze
            rw [if_neg hl2]
            simp only [Array.getElem?_modify]
            rw [if_neg (Ne.symm hkg)]
      · cases hr
    · cases hr
  · -- clear
    rename_i x t hc e1 e2
    obtain ⟨x', e1', rfl⟩ : ∃ x', c.args = #[x'] ∧ s.ev x' = x := by
      have : c.args.toList.length = 1 := by have := congrArg List.length e1; simpa using this
      match hh : c.args.toList, this with
      | [x'], _ => rw [hh] at e1; simp at e1; exact ⟨x', by rw [← Array.toList_inj]; simp [hh], e1⟩
    have et : c.argTypes = #[t] := by rw [← Array.toList_inj]; simp [e2]
    split at hr
    · rename_i e r' e' n0 lo n ys hk hwin
      split at hr
      · rename_i z hz
        cases hcond : (okT G e && Nat.beq e e') with
        | false => rw [hcond] at hr; cases hr
        | true =>
          rw [hcond] at hr
          cases hr
          simp only [Bool.and_eq_true] at hcond
          have := Nat.eq_of_beq_eq_true hcond.2
          subst this
          obtain ⟨d1, hK⟩ := h
          obtain ⟨hb, hw⟩ := win_sound hs hwin (hWa x' (by simp [e1'])) (hs.ev x')
          obtain ⟨w', q1, q2⟩ := clearX_sound ht hs (ty := o.type) hk hcond.1 hb hw hz o.dst
          refine fin_val o ?_ hK q2
          simp [execOp, ho, resolve, hc, invoke, builtin, e1', et, q1]
      · cases hr
    · cases hr
  · -- overlaps
    rename_i f x y t u hc e1 e2
    obtain ⟨x', y', e1', rfl, rfl⟩ : ∃ x' k', c.args = #[x', k'] ∧ s.ev x' = x ∧ s.ev k' = y := by
      have : c.args.toList.length = 2 := by have := congrArg List.length e1; simpa using this
      match hh : c.args.toList, this with
      | [x', k'], _ => rw [hh] at e1; simp at e1; exact ⟨x', k', by rw [← Array.toList_inj]; simp [hh], e1.1, e1.2⟩
    cases hov : Nat.beq (f + 1) (G.T t).ov with
    | false => rw [hov] at hr; cases hr
    | true =>
      rw [hov] at hr
      simp only [cond_true] at hr
      have hov' := Nat.eq_of_beq_eq_true hov
      split at hr
      · rename_i e xs r' e' n0 lo n ys hk hx hwin
        cases hcond : (okT G e && Nat.beq e e') with
        | false => rw [hcond] at hr; cases hr
        | true =>
          rw [hcond] at hr
          cases hr
          simp only [Bool.and_eq_true] at hcond
          have := Nat.eq_of_beq_eq_true hcond.2
          subst this
          obtain ⟨d1, hK⟩ := h
          obtain ⟨hb, hw⟩ := win_sound hs hwin (hWa y' (by simp [e1'])) (hs.ev y')
          have hxv := hs.ev x'
          rw [hx] at hxv
          obtain ⟨rt, hrt⟩ := (ht t (by rw [hk]; simp)).2.2.2.2.2 (by omega)
          have hf : (G.T t).ov - 1 = f := by omega
          rw [hf] at hrt
          have hrun := overlaps_run ht hs (rt := rt) hk hcond.1 hb hw d1 hxv.1
          refine fin_pure hs o (val := .bool false) ?_ (RA_val_mk _ rfl) hK
          have : (callFunc f #[a.eval x', a.eval y']).run P w = .ok (.value (.bool false)) w := by
            rw [hrt, Sem.run_bind, hrun]; rfl
          have hv : a.eval (.func f) = .func (.func f) #[] #[] := rfl
          simp only [execOp, ho, resolve, hc, hv, Deferred.ofValue]
          simp only [Sem.run_bind, Sem.run_pure, Result.andThen_ok, invoke]
          simpa [e1'] using this
      · cases hr
  · cases hr

theorem upd_x (hs : Sim G.T X s a w E) (o : Oper) {t : Nat} {x i v : Operand} (hop : o.op = .mapUpdate t x i v ∨ o.op = .insert t x i v) {r : XReq} (hr : evX G s (.mapUpdate t x i v) = some r) (h : r.wp K) : o.upon P a (Nxt G X s o.dst K) Qc ((execOp a.eval o).run P w) := by
  have hexec : ∀ {w'}, (Instr.mapUpdate t (a.eval x) (a.eval i) (a.eval v)).run P w = .ok () w' → (execOp a.eval o).run P w = .ok .skip w' := by
    intro w' hq
    rcases hop with hop | hop <;> simp [execOp, hop, hq]
  simp only [evX] at hr
  split at hr
  · rename_i kt e r' hk hx
    split at hr
    · rename_i kk isB m st hb
      split at hr
      · rename_i k kk' n hkey hkind hn
        cases hq : Nat.beq kk kk' with
        | false => rw [hq] at hr; cases hr
        | true =>
          rw [hq] at hr
          cases hr
          have := Nat.eq_of_beq_eq_true hq
          subst this
          have hv := mp_val hs hx (.inr ⟨kk, isB, m, st, hb⟩)
          obtain ⟨hkv, hkk⟩ := keyOf_sound hs hkey
          obtain ⟨w', q1, q2⟩ := mset_sound ht hs hb hk hkind hkk n o.dst s.nx undef
          refine fin_skip hs o (hexec ?_) h q2
          rw [hv, hkv, decM_sound hs hn]; exact q1
      · cases hr
    · rename_i kk es hb
      split at hr
      · rename_i k kk' c hkey hkind hc
        cases hq : (Nat.beq kk kk' && notJunk c && es.all fun p => !keq k p.1) with
        | false => rw [hq] at hr; cases hr
        | true =>
          rw [hq] at hr
          cases hr
          simp only [Bool.and_eq_true] at hq
          have := Nat.eq_of_beq_eq_true hq.1.1
          subst this
          have hv := mp_val hs hx (.inl ⟨kk, es, hb⟩)
          obtain ⟨hkv, hkk⟩ := keyOf_sound hs hkey
          have hcv := hs.ev v
          rw [hc] at hcv
          have hc1 : RC1 s.bs w E c (a.eval v) := by
            refine ⟨hcv.1, ?_⟩
            have h2 := hcv.2
            have h3 := hq.1.2
            cases c <;> first | exact h2 | cases h3
          obtain ⟨w', q1, q2⟩ := bins_sound ht hs hb hk hkind hkk hq.2 hc1 o.dst s.nx undef
          refine fin_skip hs o (hexec ?_) h q2
          rw [hv, hkv]; exact q1
      · cases hr
    · cases hr
  · cases hr

theorem evX_sound (hs : Sim G.T X s a w E) (o : Oper) {r : XReq} (hr : evX G s o.op = some r) (hW : eqL (winL s o.op)) (h : r.wp K) : o.upon P a (Nxt G X s o.dst K) Qc ((execOp a.eval o).run P w) := by
  cases hop : o.op with
  | slice t x lo hi mx => exact slice_x ht hs o hop hr hW h
  | call c => exact call_x ht hs o hop hr hW h
  | binOp op t x y ty =>
    rw [hop] at hr
    simp only [evX] at hr
    split at hr
    · rename_i e hk hy
      have hyv : a.eval y = .slice none 0 0 := by
        have h1 := hs.ev y
        rw [hy] at h1
        exact h1.1
      have hu := ht.slice hk
      have run : ∀ (b : Bool), (∃ ad n c, a.eval x = .slice ad n c ∧ b = ad.isNone) → ∀ (op' : BinOp), (op' = .eql ∧ op = .eql) ∨ (op' = .neq ∧ op = .neq) →
          (execOp a.eval o).run P w = .ok (.value (.bool (match op' with | .eql => b | _ => !b))) w := by
        intro b hb op' hop'
        obtain ⟨ad, n, c, hx, hbe⟩ := id hb
        have hg : (eqGuard op t x y (a.eval x) (.slice none 0 0)).run P w = .ok () w := by rw [hx]; exact eqGuard_slice
        obtain ⟨q1, q2⟩ := eqNil_run (w := w) hu _ b hb
        rcases hop' with ⟨rfl, rfl⟩ | ⟨rfl, rfl⟩
        · simp only [execOp, hop, hyv, Sem.run_bind, hg, Result.andThen_ok, q1, Sem.run_pure]
        · simp only [execOp, hop, hyv, Sem.run_bind, hg, Result.andThen_ok, q2, Sem.run_pure]
      have nilx : s.ev x = .w (.one .nils) → ∃ ad n c, a.eval x = .slice ad n c ∧ true = ad.isNone := fun hx => by
        have h1 := hs.ev x
        rw [hx] at h1
        exact ⟨none, 0, 0, h1.1, rfl⟩
      have slx : ∀ {xs}, s.ev x = .w (.one (.p (.sl xs))) → ∃ b, (∃ ad n c, a.eval x = .slice ad n c ∧ b = ad.isNone) ∧ (b = true → xs.isEmpty = true) := fun {xs} hx => by
        have h1 := hs.ev x
        rw [hx] at h1
        obtain ⟨ad, cap, q1, _, _, _, k, _, q2⟩ := h1.1
        refine ⟨ad.isNone, ⟨ad, _, _, q1, rfl⟩, fun hb => ?_⟩
        cases xs with
        | nil => rfl
        | cons x xs =>
          obtain ⟨b, o, e1, _⟩ := q2 (by simp)
          rw [e1] at hb; cases hb
      split at hr
      · split at hr
        · rename_i hx
          cases hr
          exact fin_pure hs o (run true (nilx hx) .eql (.inl ⟨rfl, rfl⟩)) (RA_val_mk _ rfl) h
        · rename_i xs hx
          cases hr
          obtain ⟨b, hb, hbe⟩ := slx hx
          exact fin_pure hs o (run b hb .eql (.inl ⟨rfl, rfl⟩)) (RA_val_mk _ rfl) (h.h b hbe)
        · cases hr
      · split at hr
        · rename_i hx
          cases hr
          exact fin_pure hs o (run true (nilx hx) .neq (.inr ⟨rfl, rfl⟩)) (RA_val_mk _ rfl) h
        · rename_i xs hx
          cases hr
          obtain ⟨b, hb, hbe⟩ := slx hx
          exact fin_pure hs o (run b hb .neq (.inr ⟨rfl, rfl⟩)) (RA_val_mk _ rfl) (h.h b hbe)
        · cases hr
      · cases hr
    · cases hr
  | makeMap t m =>
    rw [hop] at hr
    cases m with
    | some m => cases hr
    | none =>
    simp only [evX] at hr
    have hrun : (execOp a.eval o).run P w = .ok (.value (.map (some w.heap.size))) (w.alloc (.map #[] 0)) := by
      simp [execOp, hop, Instr.makeMap]
    have step : ∀ (b' : Blk), s.bs s.nx = .none → (b' = .mapb 0 [] ∨ (∃ kk, b' = .mapb kk []) ∨ ∃ kk isB, b' = .mapi kk isB [] none) → K ⟨.one (.mp s.nx), [(s.nx, b')], s.nx + 1⟩ → o.upon P a (Nxt G X s o.dst K) Qc ((execOp a.eval o).run P w) := by
      intro b' hnx hb hK
      rw [hrun]
      have hmb : mblk (upd s.bs s.nx b') ⟨upd E.σ s.nx w.heap.size, E.sv, E.F⟩ s.nx = some w.heap.size := by
        rcases hb with rfl | ⟨kk, rfl⟩ | ⟨kk, isB, rfl⟩ <;> simp [mblk, upd_same]
      refine ⟨_, ⟨upd E.σ s.nx w.heap.size, E.sv, E.F⟩, hK, one_step (b' := b') (E' := ⟨upd E.σ s.nx w.heap.size, E.sv, E.F⟩) (w' := w.alloc (.map #[] 0)) hs (fun q hq => ⟨upd_ne _ _ hq, rfl⟩) rfl (fun h => absurd hnx h) rfl rfl rfl (by rw [size_alloc]; exact Nat.le_succ _)
        (fun k hk _ => heap_alloc_old w _ k hk) (fun _ => ?_) (fun b h => ?_) o.dst _ ⟨?_, rfl⟩⟩
      · have hh : (w.alloc (.map #[] 0)).heap[upd E.σ s.nx w.heap.size s.nx]? = some (.map #[] 0) := by rw [upd_same]; exact heap_alloc_new w _
        rcases hb with rfl | ⟨kk, rfl⟩ | ⟨kk, isB, rfl⟩
        · exact ⟨#[], 0, hh, trivial, MapKept.stamped_empty 0⟩
        · exact ⟨#[], 0, hh, trivial, MapKept.stamped_empty 0⟩
        · exact ⟨#[], 0, hh, trivial, MapKept.stamped_empty 0, fun k b h => by cases h⟩
      · rw [hmb] at h; cases h
        exact ⟨.inr (Nat.le_refl _), by rw [size_alloc]; exact Nat.lt_succ_self _⟩
      · rcases hb with rfl | ⟨kk, rfl⟩ | ⟨kk, isB, rfl⟩ <;> simp only [RC, upd_same]
    split at hr
    · split at hr
      · cases hn : isNone s s.nx with
        | false => rw [hn] at hr; cases hr
        | true => rw [hn] at hr; cases hr; exact step _ (isNone_iff hn) (.inr (.inr ⟨_, _, rfl⟩)) h
      · cases hn : isNone s s.nx with
        | false => rw [hn] at hr; cases hr
        | true => rw [hn] at hr; cases hr; exact step _ (isNone_iff hn) (.inr (.inr ⟨_, _, rfl⟩)) h
      · cases hn : isNone s s.nx with
        | false => rw [hn] at hr; cases hr
        | true => rw [hn] at hr; cases hr; exact step _ (isNone_iff hn) (.inr (.inl ⟨_, rfl⟩)) h
      · cases hr
    · cases hr
  | lookup t x i ok =>
    rw [hop] at hr
    simp only [evX] at hr
    split at hr
    · rename_i kt e r' hk hx
      split at hr
      · rename_i kk isB m st hb
        split at hr
        · rename_i k kk' hkey hkind
          cases hq : (Nat.beq kk kk' && okT G e && zOK isB (G.T e).zero) with
          | false => rw [hq] at hr; cases hr
          | true =>
            rw [hq] at hr
            cases hr
            simp only [Bool.and_eq_true] at hq
            have := Nat.eq_of_beq_eq_true hq.1.1
            subst this
            have hzz : (G.T e).zero = encM isB 0 := by
              exact zOK_sound hq.2
            have hv := mp_val hs hx (.inr ⟨kk, isB, m, st, hb⟩)
            obtain ⟨hkv, hkk⟩ := keyOf_sound hs hkey
            have q := mget_sound ht hs hb hk hkind (okT_ne ht hq.1.2) hzz hkk ok
            refine fin_pure hs o (val := if ok then .tuple #[encM isB (mget m k), .bool (mhas m k)] else encM isB (mget m k)) ?_ ?_ h
            · simp [execOp, hop, hv, hkv, q]
            · cases ok with
              | true => exact ⟨_, rfl, ⟨rfl, encM_one _ _⟩, ⟨rfl, rfl⟩, trivial⟩
              | false => exact ⟨rfl, encM_one _ _⟩
        · cases hr
      · rename_i kk es hb
        split at hr
        · rename_i k kk' hkey hkind
          cases hq : (Nat.beq kk kk' && okT G e) with
          | false => rw [hq] at hr; cases hr
          | true =>
            rw [hq] at hr
            cases hr
            simp only [Bool.and_eq_true] at hq
            have := Nat.eq_of_beq_eq_true hq.1
            subst this
            have hv := mp_val hs hx (.inl ⟨kk, es, hb⟩)
            obtain ⟨hkv, hkk⟩ := keyOf_sound hs hkey
            obtain ⟨v, val, q1, q2, q3⟩ := bget_sound ht hs hb hk hkind (okT_ne ht hq.2) hkk h
            refine fin_pure hs o (val := val) ?_ q2 q3
            simp [execOp, hop, hv, hkv, q1]
        · cases hr
      · cases hr
    · cases hr
  | mapUpdate t x i v =>
    rw [hop] at hr
    exact upd_x ht hs o (.inl hop) hr h
  | insert t x i v =>
    rw [hop] at hr
    exact upd_x ht hs o (.inr hop) hr h
  | mapEntry t x i =>
    rw [hop] at hr
    simp only [evX] at hr
    split at hr
    · rename_i kt e r' hk hx
      split at hr
      · rename_i kk isB m st hb
        split at hr
        · rename_i k kk' hkey hkind
          cases hq : (Nat.beq kk kk' && okT G e && zOK isB (G.T e).zero) with
          | false => rw [hq] at hr; cases hr
          | true =>
            rw [hq] at hr
            cases hr
            simp only [Bool.and_eq_true] at hq
            have := Nat.eq_of_beq_eq_true hq.1.1
            subst this
            have hzz : (G.T e).zero = encM isB 0 := by
              exact zOK_sound hq.2
            have hv := mp_val hs hx (.inr ⟨kk, isB, m, st, hb⟩)
            obtain ⟨hkv, hkk⟩ := keyOf_sound hs hkey
            obtain ⟨b, w', q1, q2⟩ := ment_sound ht hs hb hk hkind (okT_ne ht hq.1.2) hzz hkk o.dst s.nx
            refine fin_val o ?_ (h.h b) q2
            simp [execOp, hop, hv, hkv, q1]
        · cases hr
      · cases hr
    · cases hr
  | entryStore t x st v =>
    rw [hop] at hr
    simp only [evX] at hr
    split at hr
    · rename_i r' b' hx hst
      split at hr
      · rename_i kk isB m k b hb
        split at hr
        · rename_i n hn
          cases hr
          obtain ⟨rfl, hK⟩ := h
          have hv := mp_val hs hx (.inr ⟨kk, isB, m, _, hb⟩)
          have hnv := decM_sound hs hn
          have hsv : a.eval st = .int .i64 b' := by
            have h1 := hs.ev st
            rw [hst] at h1
            exact RA_val h1
          obtain ⟨w', q1, q2⟩ := estore_sound ht hs (mt := t) hb n o.dst s.nx undef
          refine fin_skip hs o ?_ hK q2
          simp [execOp, hop, hv, hnv, hsv, q1]
        · cases hr
      · cases hr
    · cases hr
  | typeAssert x xt ta ok =>
    rw [hop] at hr
    simp only [evX] at hr
    split at hr
    · rename_i t v hx
      have hxv : a.eval x = .iface t v := by
        have h1 := hs.ev x
        rw [hx] at h1
        exact RA_val h1
      have go : (G.T ta).k ≠ .other → (∀ d, P.underlying ta = some d → ∀ ms, d ≠ .interface ms) → (bif Nat.beq t ta then some (XReq.eff ⟨bif ok then .tup [w1Of v, .one (.p (.v (.bool true)))] else .w (w1Of v), [], s.nx⟩)
          else bif ok then some (.eff ⟨.tup [w1Of (G.T ta).zero, .one (.p (.v (.bool false)))], [], s.nx⟩) else none) = some r → o.upon P a (Nxt G X s o.dst K) Qc ((execOp a.eval o).run P w) := by
        intro hne hni hr
        obtain ⟨d, hd⟩ := ht.und hne
        have hnid := hni d hd
        cases hq : Nat.beq t ta with
        | true =>
          rw [hq] at hr
          cases hr
          have := Nat.eq_of_beq_eq_true hq
          subst this
          have hrun : (Instr.typeAssert (.iface t v) xt t ok).run P w = .ok (if ok then .tuple #[v, .bool true] else v) w := by
            unfold Instr.typeAssert
            rw [Sem.run_bind, run_underlying hd, Result.andThen_ok]
            cases d <;> first | exact absurd rfl (hnid _) | (cases ok <;> simp)
          refine fin_pure hs o (val := if ok then .tuple #[v, .bool true] else v) ?_ ?_ h
          · simp [execOp, hop, hxv, hrun]
          · cases ok with
            | true => exact ⟨_, rfl, ofVal_w1 _ _, ⟨rfl, rfl⟩, trivial⟩
            | false => exact ofVal_w1 _ _
        | false =>
          rw [hq] at hr
          cases ok with
          | false => cases hr
          | true =>
            cases hr
            have hne' : ¬ t = ta := fun e => by subst e; rw [Nat.beq_refl] at hq; cases hq
            have hz := ht.zero hne w
            have hrun : (Instr.typeAssert (.iface t v) xt ta true).run P w = .ok (.tuple #[(G.T ta).zero, .bool false]) w := by
              unfold Instr.typeAssert
              rw [Sem.run_bind, run_underlying hd, Result.andThen_ok]
              cases d <;> first | exact absurd rfl (hnid _) | simp [hne', hz]
            refine fin_pure hs o (v := .tup [w1Of (G.T ta).zero, .one (.p (.v (.bool false)))]) (val := .tuple #[(G.T ta).zero, .bool false]) ?_ ⟨_, rfl, ofVal_w1 _ _, ⟨rfl, rfl⟩, trivial⟩ h
            simp [execOp, hop, hxv, hrun]
      split at hr
      · cases hr
      · cases hr
      · rename_i h1 h2
        refine go h2 (fun d hd ms e => ?_) hr
        subst e
        have h3 := (ht ta h2).1
        unfold tkOf at h3
        rw [hd] at h3
        exact h1 h3.symm
    · cases hr
  | makeChan t x =>
    rw [hop] at hr
    simp only [evX] at hr
    split at hr
    · rename_i e n hk hn
      cases hq : isNone s s.nx with
      | false => rw [hq] at hr; cases hr
      | true =>
        rw [hq] at hr
        cases hr
        have hnx := isNone_iff hq
        obtain ⟨⟨c1, c2, c3, c4⟩, hK⟩ := h
        obtain ⟨k, hv⟩ := intOf_sound hs hn
        obtain ⟨i, hi, _, hib, _⟩ := ht.info2 (okT_ne ht c1)
        obtain ⟨dir, hu⟩ : ∃ dir, P.underlying t = some (.chan dir e) := by
          have h1 := (ht t (by rw [hk]; simp)).1
          rw [hk] at h1
          unfold tkOf at h1
          split at h1 <;> simp_all
        have hmk := Conc.run_makeChan (P := P) (w := w) hu hi k n.toNat (by omega) (by rw [hib, Int.toNat_of_nonneg c2, Int.mul_comm]; exact c3)
        rw [Int.toNat_of_nonneg c2] at hmk
        have hrun : (execOp a.eval o).run P w = .ok (.value (.chan (some w.heap.size))) (w.alloc (.chan n.toNat #[] false 0 0 false)) := by
          simp [execOp, hop, hv, hmk]
        rw [hrun]
        refine ⟨_, ⟨upd E.σ s.nx w.heap.size, E.sv, E.F⟩, hK, one_step (b' := .chan n.toNat [] false) (E' := ⟨upd E.σ s.nx w.heap.size, E.sv, E.F⟩) (w' := w.alloc (.chan n.toNat #[] false 0 0 false)) hs (fun q hq => ⟨upd_ne _ _ hq, rfl⟩) rfl (fun h => absurd hnx h) rfl rfl rfl (by rw [size_alloc]; exact Nat.le_succ _)
          (fun k hk _ => heap_alloc_old w _ k hk) (fun _ => ⟨by simp, 0, 0, ?_⟩) (fun b h => ?_) o.dst _ ⟨?_, rfl⟩⟩
        · show (w.alloc (.chan n.toNat #[] false 0 0 false)).heap[upd E.σ s.nx w.heap.size s.nx]? = _
          rw [upd_same]; exact heap_alloc_new w _
        · simp only [mblk, upd_same, Option.some.injEq] at h
          subst h
          exact ⟨.inr (Nat.le_refl _), by rw [size_alloc]; exact Nat.lt_succ_self _⟩
        · simp only [RC, upd_same]
    · cases hr
  | range t x =>
    rw [hop] at hr
    simp only [evX] at hr
    split at hr
    · rename_i l hk hx
      cases hn : isNone s s.nx with
      | false => rw [hn] at hr; cases hr
      | true =>
        rw [hn] at hr
        cases hr
        have hnx := isNone_iff hn
        have hv : a.eval x = .string ⟨⟨l⟩⟩ := by
          have h1 := hs.ev x
          rw [hx] at h1
          exact RA_val h1
        have hrun : (execOp a.eval o).run P w = .ok (.value (.pointer (some ⟨w.heap.size, 0, none⟩))) (w.alloc (.stringIter ⟨⟨l⟩⟩ 0)) := by
          simp [execOp, hop, Instr.range, hv, run_underlying (ht.str hk)]
        rw [hrun]
        refine ⟨_, ⟨upd E.σ s.nx w.heap.size, E.sv, E.F⟩, h, one_step (b' := .iter l 0) (E' := ⟨upd E.σ s.nx w.heap.size, E.sv, E.F⟩) (w' := w.alloc (.stringIter ⟨⟨l⟩⟩ 0)) hs (fun q hq => ⟨upd_ne _ _ hq, rfl⟩) rfl (fun h => absurd hnx h) rfl rfl rfl (by rw [size_alloc]; exact Nat.le_succ _)
          (fun k hk _ => heap_alloc_old w _ k hk) (fun _ => ?_) (fun b h => ?_) o.dst _ ⟨?_, rfl⟩⟩
        · show (w.alloc (.stringIter ⟨⟨l⟩⟩ 0)).heap[upd E.σ s.nx w.heap.size s.nx]? = _
          rw [upd_same]; exact heap_alloc_new w _
        · simp only [mblk, upd_same, Option.some.injEq] at h
          subst h
          exact ⟨.inr (Nat.le_refl _), by rw [size_alloc]; exact Nat.lt_succ_self _⟩
        · simp only [RC, upd_same]
    · cases hr
  | next x str =>
    rw [hop] at hr
    cases str with
    | false => simp [evX] at hr
    | true =>
    simp only [evX] at hr
    split at hr
    · rename_i r' hx
      split at hr
      · rename_i l p hb
        cases hr
        have hv : a.eval x = .pointer (some ⟨E.σ r', 0, none⟩) := by
          have h1 := hs.ev x
          rw [hx] at h1
          have h1 := h1.1
          simp only [RC, hb] at h1
          exact h1
        have hB := hs.bl.blk r'
        rw [hb] at hB
        have hB : w.heap[E.σ r']? = some (.stringIter ⟨⟨l⟩⟩ p) := hB
        have hlt : E.σ r' < w.heap.size := (Array.getElem?_eq_some_iff.1 hB).1
        have hget : (getObj (E.σ r')).run P w = .ok (.stringIter ⟨⟨l⟩⟩ p) w := by simp [getObj, Sem.run, hB]
        have hsz : (⟨⟨l⟩⟩ : ByteArray).size = l.length := rfl
        cases hd : decide (p < l.length) with
        | false =>
          have hK := h.h false hd
          have hnp : ¬ p < l.length := of_decide_eq_false hd
          refine fin_pure hs o (v := .tup [.one (.p (.v (.bool false)))]) (val := .tuple #[.bool false]) ?_ ⟨_, rfl, ⟨rfl, rfl⟩, trivial⟩ hK
          simp [execOp, hop, hv, Instr.next, hget, hsz, hnp]
        | true =>
          obtain ⟨hc, hK⟩ := h.h true hd
          have hp : p < l.length := of_decide_eq_true hd
          have hbyte : ((⟨⟨l⟩⟩ : ByteArray).get! (p + 0)) = l.getD p 0 := by
            show (l.toArray[p + 0]!) = _
            rw [Nat.add_zero, getElem!_pos _ _ (by simpa using hp)]
            rw [List.getD_eq_getElem?_getD, List.getElem?_eq_getElem hp]
            rfl
          have hdec : Utf8.decode ⟨⟨l⟩⟩ p = ((l.getD p 0).toNat, 1) := by
            unfold Utf8.decode
            simp only [hbyte]
            rw [if_pos hc]
          have hset : (setObj (E.σ r') (.stringIter ⟨⟨l⟩⟩ (p + 1))).run P w = .ok () { w with heap := w.heap.setIfInBounds (E.σ r') (.stringIter ⟨⟨l⟩⟩ (p + 1)) } := by
            simp [setObj, Sem.run, hB]
          have hrun : (execOp a.eval o).run P w = .ok (.value (.tuple #[.bool true, .int .i64 p, .int .i32 (l.getD p 0).toNat])) { w with heap := w.heap.setIfInBounds (E.σ r') (.stringIter ⟨⟨l⟩⟩ (p + 1)) } := by
            simp [execOp, hop, hv, Instr.next, hget, hsz, hp, hdec, hset, goInt]
          rw [hrun]
          have hmr : mblk s.bs E r' = some (E.σ r') := by simp [mblk, hb]
          refine ⟨_, E, hK, one_step (b' := .iter l (p + 1)) (E' := E) (w' := { w with heap := w.heap.setIfInBounds (E.σ r') (.stringIter ⟨⟨l⟩⟩ (p + 1)) }) hs (fun _ _ => ⟨rfl, rfl⟩) rfl ?_ rfl rfl rfl (by simp)
            (fun k _ hne => by
              have : k ≠ E.σ r' := fun e => hne (by rw [e]; exact hmr.symm)
              exact Array.getElem?_setIfInBounds_ne (Ne.symm this)) (fun _ => ?_) (fun b hb' => ?_) o.dst _ ⟨_, rfl, ⟨rfl, rfl⟩, ⟨rfl, rfl⟩, ⟨rfl, rfl⟩, trivial⟩⟩
          · intro _; rw [upd_same]; exact ⟨⟨l, p, hb⟩, rfl⟩
          · show ({ w with heap := w.heap.setIfInBounds (E.σ r') (.stringIter ⟨⟨l⟩⟩ (p + 1)) } : World).heap[E.σ r']? = _
            simp [hlt]
          · simp only [mblk, upd_same, Option.some.injEq] at hb'
            subst hb'
            exact ⟨.inl hmr.symm, by simpa using hlt⟩
      · cases hr
    · cases hr
  | buildSlice t n parts =>
    rw [hop] at hr
    simp only [evX] at hr
    split at hr
    · rename_i e hk
      split at hr
      · rename_i e2 hke
        cases hq : (isNone s s.nx && (parts.toList.all fun p => okBox (s.ev p.2)) && Nat.ble n 4096 && Nat.beq (sizeT G e) 1 && okT G e) with
        | false => rw [hq] at hr; cases hr
        | true =>
          rw [hq] at hr
          simp only [cond_true, Option.map_eq_some_iff] at hr
          obtain ⟨cs, hcs, rfl⟩ := hr
          simp only [Bool.and_eq_true] at hq
          obtain ⟨⟨⟨⟨q1, q2⟩, q3⟩, q4⟩, q5⟩ := hq
          replace q3 := Nat.le_of_ble_eq_true q3
          have q4 : (G.T e).size = 1 := Nat.eq_of_beq_eq_true q4
          have hne := okT_ne ht q5
          obtain ⟨i, hi, his, hib, hiz⟩ := ht.info2 hne
          have hA0 := zeroCs_ok (w := w) (E := E) (bs := s.bs) ht (t := e) hne
          have hzs : (G.T e).zero.cells.size = 1 := by
            rw [← Array.length_toList, (ht e hne).2.2.2.1, q4]
          obtain ⟨ar0, har0, hrun⟩ := buildSlice_run (P := P) (w := w) (n := n) (ht.slice hk) hi hiz (k := 1) (by rw [← q4]; exact his) hzs (by omega) (by omega)
          have hA1 : A2 (RC1 s.bs w E) (List.replicate n (zeroCs G e)).flatten ar0.toList := by
            rw [har0]
            clear hcs hrun har0 q3 h hop
            induction n with
            | zero => trivial
            | succ n ih => simp only [List.replicate_succ, List.flatten_cons]; exact hA0.append ih
          obtain ⟨ar', g1, g2⟩ := fill_sound (bs := s.bs) (w := w) (E := E) (fun i => some (i * 1, 1)) _ _ (parts_sound ht hs parts.toList q2) _ _ _ hA1 hcs
          have hr := hrun ar' (parts.map fun p => (p.1, a.eval p.2)) (by rw [Array.toList_map]; exact g1)
          have hexec : (execOp a.eval o).run P w = .ok (.value (.slice (some ⟨w.heap.size, 0, none⟩) n n)) (w.alloc (.cells ar' e)) := by
            simp [execOp, hop, hr]
          rw [hexec]
          have hal : Sim G.T X { s with bs := updL s.bs [(s.nx, .vars cs)] } a (w.alloc (.cells ar' e)) ⟨upd E.σ s.nx w.heap.size, E.sv, E.F⟩ := alloc_step hs (isNone_iff q1) e g2 none s.nx
          refine ⟨_, ⟨upd E.σ s.nx w.heap.size, E.sv, E.F⟩, h, sim_app_nil (Sim.step (s := { s with bs := updL s.bs [(s.nx, .vars cs)] }) hal o.dst (nx := s.nx + 1) (bl := []) (FExt.refl _ _) (BExt.refl _ _) ?_ hal.bl hal.own hal.fr)⟩
          refine ⟨?_, rfl⟩
          have hb4 : updL (updL s.bs [(s.nx, .vars cs)]) [] s.nx = .vars cs := upd_same _ _ _
          simp only [RC, hb4]
          rw [upd_same]
      · cases hr
    · cases hr
  | indexAddr t x i =>
    rw [hop] at hr
    simp only [evX] at hr
    split at hr
    · rename_i e r' n j hk hx hi
      split at hr
      · rename_i cs hb
        cases hq : (okT G e && Nat.beq (sizeT G e) 1) with
        | false => rw [hq] at hr; cases hr
        | true =>
          rw [hq] at hr
          cases hr
          simp only [Bool.and_eq_true] at hq
          have q4 : sizeT G e = 1 := Nat.eq_of_beq_eq_true hq.2
          obtain ⟨⟨c1, c2⟩, hK⟩ := h
          have hv : a.eval x = .slice (some ⟨E.σ r', 0, none⟩) n n := by
            have h1 := hs.ev x
            rw [hx] at h1
            have h1 := h1.1
            simp only [RC, hb] at h1
            exact h1
          obtain ⟨k, hkv⟩ := intOf_sound hs hi
          have hsz : (sizeOf e).run P w = .ok 1 w := by rw [← q4]; exact ht.sizeOf (okT_ne ht hq.1) w
          refine fin_pure hs o (v := .one (.ptr r' j.toNat)) (val := .pointer (some ⟨E.σ r', j.toNat, none⟩)) ?_ ⟨?_, rfl⟩ hK
          · simp [execOp, hop, hv, hkv, Instr.indexAt, asIntOf, run_underlying (ht.slice hk), c1, c2, hsz, addr_add]
          · simp only [RC, hb]
      · cases hr
    · cases hr
  | _ => rw [hop] at hr; simp [evX] at hr

theorem x_sound (hC : ∀ f ar bs out bs', C f ar bs out bs' → Sound P G.T f ar bs out bs') (hJ : SoundJ P G.T J) (hs : Sim G.T X s a w E) (hQ : PanQ X Pp Qc) (o : Oper) {dr : Bool} (htop : dr = false → Top s)
    (h : wpX G C J dr o s Pp K) : o.upon P a (Nxt G X s o.dst K) Qc ((execOp a.eval o).run P w) := by
  cases dr with
  | true => exact op_sound ht hC hJ hs hQ o htop h
  | false =>
    unfold wpX at h
    split at h
    · rename_i hd; cases hd
    · split at h
      · rename_i r hr
        split at h
        · rename_i hl
          exact evX_sound ht hs o hr (by rw [hl]; trivial) h
        · rename_i p l hl
          exact evX_sound ht hs o hr (by rw [hl]; exact h.l) h.r
      · exact op_sound ht hC hJ hs hQ o htop h
end
end Go.Fw
/- A state that says less; operations one behind the other. -/
namespace Go.Fw
open Go Go.RowKit

section
variable {T : Nat → TI} {X : Ctx2} {s s0 : St} {a : Act} {w : World} {E : Env}

theorem RC.weak (hb : ∀ r, s0.bs r = .none ∨ s0.bs r = .dead ∨ s0.bs r = s.bs r) {c : Cell} {y : Value} (hi : issC s0.bs c = true) (h : RC s.bs w E c y) : RC s0.bs w E c y := by
  cases c with
  | p x => exact h
  | nils => exact h
  | ref r n =>
    simp only [RC] at h ⊢
    simp only [issC, issC.issR] at hi
    rcases hb r with e | e | e
    · rw [e] at hi; cases hi
    · rw [e]; trivial
    · rw [e]; exact h
  | ptr r o =>
    simp only [RC] at h ⊢
    simp only [issC, issC.issR] at hi
    rcases hb r with e | e | e
    · rw [e] at hi; cases hi
    · rw [e]; trivial
    · rw [e]; exact h
  | vptr r n i o =>
    simp only [RC] at h ⊢
    simp only [issC, issC.issR] at hi
    rcases hb r with e | e | e
    · rw [e] at hi; cases hi
    · rw [e]; trivial
    · rw [e]; exact h
  | pv cs o => exact h
  | fn f pre caps => exact h
  | win r lo n =>
    simp only [RC] at h ⊢
    simp only [issC, issC.issR] at hi
    rcases hb r with e | e | e
    · rw [e] at hi; cases hi
    · rw [e]; trivial
    · rw [e]; exact h
  | fnr f pre caps =>
    obtain ⟨x, y, e, h1, h2⟩ := h
    simp only [issC, Bool.and_eq_true] at hi
    have go : ∀ (l : List CapR) (us : List Value), (l.all (issC.issP s0.bs)) = true → A2 (RCapR s.bs w E) l us → A2 (RCapR s0.bs w E) l us := by
      intro l
      induction l with
      | nil => intro us _ h; cases us <;> exact h
      | cons p l ih =>
        intro us hl h
        cases us with
        | nil => exact h
        | cons u us =>
          simp only [List.all_cons, Bool.and_eq_true] at hl
          refine ⟨?_, ih us hl.2 h.2⟩
          cases p with
          | fix c => exact h.1
          | ref r o =>
            refine ⟨?_, h.1.2⟩
            have h1 := h.1.1
            have hp := hl.1
            simp only [issC.issP] at hp
            rcases hb r with e1 | e1 | e1
            · rw [e1] at hp; cases hp
            · rw [e1]; trivial
            · rw [e1]; exact h1
    exact ⟨x, y, e, go pre _ hi.1 h1, go caps _ hi.2 h2⟩
  | rows r n =>
    simp only [RC] at h ⊢
    simp only [issC, issC.issR] at hi
    rcases hb r with e | e | e
    · rw [e] at hi; cases hi
    · rw [e]; trivial
    · rw [e]; exact h
  | ch r =>
    simp only [RC] at h ⊢
    simp only [issC, issC.issR] at hi
    rcases hb r with e | e | e
    · rw [e] at hi; cases hi
    · rw [e]; trivial
    · rw [e]; exact h
  | mp r =>
    simp only [RC] at h ⊢
    simp only [issC, issC.issR] at hi
    rcases hb r with e | e | e
    · rw [e] at hi; cases hi
    · rw [e]; trivial
    · rw [e]; exact h
  | junk => trivial
theorem RCs.weak (hb : ∀ r, s0.bs r = .none ∨ s0.bs r = .dead ∨ s0.bs r = s.bs r) : ∀ {cs : List Cell} {us : List Value}, cs.all (issC s0.bs) = true → A2 (RC1 s.bs w E) cs us → A2 (RC1 s0.bs w E) cs us
  | [], [], _, _ => trivial
  | c :: cs, u :: us, hi, h => by
    simp only [List.all_cons, Bool.and_eq_true] at hi
    exact ⟨⟨RC.weak hb hi.1 h.1.1, h.1.2⟩, RCs.weak hb hi.2 h.2⟩
theorem RW.weak (hb : ∀ r, s0.bs r = .none ∨ s0.bs r = .dead ∨ s0.bs r = s.bs r) {x : W1} {y : Value} (hi : issW s0.bs x = true) (h : RW s.bs w E x y) : RW s0.bs w E x y := by
  cases x with
  | one c => exact ⟨RC.weak hb hi h.1, h.2⟩
  | agg cs => obtain ⟨ar, e, hA⟩ := h; exact ⟨ar, e, RCs.weak hb hi hA⟩
theorem RWs.weak (hb : ∀ r, s0.bs r = .none ∨ s0.bs r = .dead ∨ s0.bs r = s.bs r) : ∀ {cs : List W1} {us : List Value}, cs.all (issW s0.bs) = true → A2 (RW s.bs w E) cs us → A2 (RW s0.bs w E) cs us
  | [], [], _, _ => trivial
  | c :: cs, u :: us, hi, h => by
    simp only [List.all_cons, Bool.and_eq_true] at hi
    exact ⟨RW.weak hb hi.1 h.1, RWs.weak hb hi.2 h.2⟩
theorem RA.weak (hb : ∀ r, s0.bs r = .none ∨ s0.bs r = .dead ∨ s0.bs r = s.bs r) {x : AV} {y : Value} (hi : issA s0.bs x = true) (h : RA s.bs w E x y) : RA s0.bs w E x y := by
  cases x with
  | w x => exact RW.weak hb hi h
  | tup l => obtain ⟨ar, e, hA⟩ := h; exact ⟨ar, e, RWs.weak hb hi hA⟩

open Classical in
noncomputable def newBs (T : Nat → TI) (s0 s : St) : Nat → Blk := fun r => if newRowS T s0 s r then s0.bs r else s.bs r
open Classical in
noncomputable def newEnv (T : Nat → TI) (s0 s : St) (E : Env) : Env := ⟨E.σ, fun r => if newRowS T s0 s r then .slice none 0 0 else E.sv r, E.F⟩
theorem newBs_old {T : Nat → TI} {s0 s : St} {r : Nat} (h : s.bs r ≠ .none) : newBs T s0 s r = s.bs r := by
  unfold newBs
  rw [if_neg fun hn => h hn.1]
theorem newEnv_old {T : Nat → TI} {s0 s : St} {E : Env} {r : Nat} (h : s.bs r ≠ .none) : (newEnv T s0 s E).sv r = E.sv r := by
  unfold newEnv
  simp only
  rw [if_neg fun hn => h hn.1]
theorem newBExt (T : Nat → TI) (s0 s : St) (E : Env) : BExt s.bs E (newBs T s0 s) (newEnv T s0 s E) := by
  intro r hr
  rw [newBs_old hr]
  have := BExt.refl s.bs E r hr
  cases h : s.bs r with
  | none => exact (hr h).elim
  | vec e xs fz => exact ⟨e, xs, fz, rfl, Nat.le_refl _, fun _ => ⟨newEnv_old hr, fun k hk => hk⟩⟩
  | buf e n0 ys => exact .inr ⟨ys, rfl, rfl, newEnv_old hr, fun k hk => hk⟩
  | _ => rw [h] at this; exact this

theorem Sim.weak (hs : Sim T X s a w E) (hl : le T s0 s) : ∃ E', Sim T X s0 a w E' := by
  have hbe := newBExt T s0 s E
  have hb : ∀ r, s0.bs r = .none ∨ s0.bs r = .dead ∨ s0.bs r = newBs T s0 s r := fun r => by
    rcases hl.bs r with h | h | h | h
    · exact .inl h
    · exact .inr (.inl h)
    · by_cases hn : s.bs r = .none
      · exact .inl (h.1.trans hn)
      · exact .inr (.inr (h.1.trans (newBs_old hn).symm))
    · refine .inr (.inr ?_)
      unfold newBs
      rw [if_pos h]
  have hmn : ∀ r b, mblk (newBs T s0 s) (newEnv T s0 s E) r = some b → mblk s.bs E r = some b := by
    intro r b h
    by_cases hn : s.bs r = .none
    · exfalso
      unfold mblk newBs at h
      by_cases hw : newRowS T s0 s r
      · rw [if_pos hw] at h
        obtain ⟨_, e, he, _⟩ := hw
        rw [he] at h
        have hw' : newRowS T s0 s r := ⟨hn, e, he, by assumption⟩
        simp only [newEnv, if_pos hw'] at h
        cases h
      · rw [if_neg hw, hn] at h; cases h
    · unfold mblk at h ⊢
      rw [newBs_old hn] at h
      cases hq : s.bs r with
      | vec e xs fz =>
        rw [hq] at h
        cases fz with
        | true => cases h
        | false => simp only at h ⊢; rw [newEnv_old hn] at h; exact h
      | buf e n ys => rw [hq] at h; simp only at h ⊢; rw [newEnv_old hn] at h; exact h
      | _ => rw [hq] at h; exact h
  have hm : ∀ q b, mblk s0.bs (newEnv T s0 s E) q = some b → mblk s.bs E q = some b := by
    intro q b h
    refine hmn q b ?_
    unfold mblk at h ⊢
    rcases hb q with e | e | e
    · rw [e] at h; cases h
    · rw [e] at h; cases h
    · rw [e] at h; exact h
  have hfe : FExt w E.F w (newEnv T s0 s E).F := ⟨fun _ h => h, fun _ _ => rfl⟩
  refine ⟨newEnv T s0 s E,
    { defers := hs.defers
      size := hs.size.trans hl.nt.symm
      tm := fun d => by
        rcases hl.tm d with e | ⟨e, hi⟩ | ⟨r, e1, e2, e3⟩
        · rw [e]; exact RA_junk _ _
        · rw [e] at hi ⊢; exact RA.weak (s := { s with bs := newBs T s0 s }) hb hi ((hs.tm d).ext hfe hbe)
        · have h := hs.tm d
          rw [e2] at h
          rw [e1]
          have hy : a.tmps.getD d undef = .slice none 0 0 := h.1
          rw [hy]
          obtain ⟨_, e, he, _⟩ := id e3
          refine ⟨?_, rfl⟩
          simp only [RC, he]
          refine ⟨Nat.le_refl _, fun _ => ?_⟩
          simp only [newEnv, if_pos e3]
      bl :=
        { blk := fun r => by
            rcases hl.bs r with e | e | ⟨e, hi⟩ | hn
            · rw [e]; trivial
            · rw [e]; trivial
            · have hq := hs.bl.blk r
              rw [e] at hi ⊢
              cases h : s.bs r with
              | none => trivial
              | dead => trivial
              | vars cs =>
                rw [h] at hq hi
                obtain ⟨ar, ty, q1, q2⟩ := hq
                exact ⟨ar, ty, q1, RCs.weak (s := { s with bs := newBs T s0 s }) hb hi (q2.mono fun _ _ hx => hx.ext hfe hbe)⟩
              | tvars t cs =>
                rw [h] at hq hi
                obtain ⟨ar, q1, q2⟩ := hq
                exact ⟨ar, q1, RCs.weak (s := { s with bs := newBs T s0 s }) hb hi (q2.mono fun _ _ hx => hx.ext hfe hbe)⟩
              | imm cs => rw [h] at hq; exact hq
              | vec e' xs fz =>
                rw [h] at hq
                have := newEnv_old (T := T) (s0 := s0) (E := E) (r := r) (by rw [h]; simp)
                unfold RB
                rw [this]
                exact hq
              | buf e' n0 ys =>
                rw [h] at hq
                have := newEnv_old (T := T) (s0 := s0) (E := E) (r := r) (by rw [h]; simp)
                unfold RB
                rw [this]
                exact hq
              | mapb kk es =>
                rw [h] at hq hi
                obtain ⟨ms, clock, q1, q2, q3⟩ := hq
                refine ⟨ms, clock, q1, ?_, q3⟩
                clear q3
                have hi' : (es.all fun p => issC s0.bs p.2) = true := hi
                clear hi q1 h
                revert q2
                generalize ms.toList = ml
                intro q2
                induction es generalizing ml with
                | nil => cases ml <;> exact q2
                | cons p es ih =>
                  cases ml with
                  | nil => exact q2
                  | cons e' ml =>
                    simp only [List.all_cons, Bool.and_eq_true] at hi'
                    have h1 := q2.1.2.2.ext hfe hbe
                    exact ⟨⟨q2.1.1, q2.1.2.1, RC.weak (s := { s with bs := newBs T s0 s }) hb hi'.1 h1.1, h1.2⟩, ih hi'.2 _ q2.2⟩
              | mapi kk b m st => rw [h] at hq; exact hq
              | iter l p => rw [h] at hq; exact hq
              | lock D => rw [h] at hq; exact hq
              | chan c b cl => rw [h] at hq; exact hq
            · obtain ⟨h1, e, he, hz⟩ := id hn
              rw [he]
              unfold RB
              have : (newEnv T s0 s E).sv r = .slice none 0 0 := by simp only [newEnv, if_pos hn]
              rw [this]
              exact ⟨by simp, hz, by simp, World.ownsRow_nil w 0 e _, fun h => by cases h⟩
          inj := fun r r' b h h' => hs.bl.inj r r' b (hm r b h) (hm r' b h')
          mt := fun r b h => hs.bl.mt r b (hm r b h) }
      own := fun r b h => by rw [hl.lo]; exact hs.own r b (hm r b h)
      fr := hs.fr
      hist := by
        intro r hr
        have h1 := (hs.hist.trans hbe) r hr
        rcases hb r with e | e | e
        · have h2 := hs.hist r hr
          rw [hl.kp r (by rw [hl.lo]; exact hs.old r hr) e] at h2
          exact h2.elim
        · rw [e]; trivial
        · rw [e]; exact h1
      old := fun r hr => by rw [hl.lo]; exact hs.old r hr
      mo := hs.mo }⟩
end

theorem upd_at {α : Type} (f : Nat → α) (d n : Nat) (v : α) : upd f d v n = if n = d then v else f n := by
  by_cases h : n = d
  · rw [if_pos h, h, upd_same]
  · rw [if_neg h, upd_ne _ _ h]
theorem updL_none : ∀ (l : List (Nat × Blk)) (f : Nat → Blk) (r : Nat), f r = .none → (∀ p ∈ l, p.1 ≠ r) → updL f l r = .none
  | [], _, _, h, _ => h
  | p :: l, f, r, h, hl => updL_none l _ r (by rw [upd_ne _ _ (fun e => hl p (by simp) e.symm)]; exact h) fun q hq => hl q (by simp [hq])
theorem Top.app {s : St} {e : Eff} {dst : Option Nat} (h : Top s) (he : effOK s e = true) : Top (s.app dst e) := by
  simp only [effOK, Bool.and_eq_true] at he
  have h1 := Nat.le_of_ble_eq_true he.1
  intro r hr
  refine updL_none e.bl s.bs r (h r (Nat.le_trans h1 hr)) fun p hp => ?_
  have h2 := List.all_eq_true.1 he.2 p hp
  have h3 : p.1 < e.nx := Nat.lt_of_succ_le (Nat.le_of_ble_eq_true h2)
  have hr' : e.nx ≤ r := hr
  omega
/-- The exits, as the world has them. -/
def QQ0 (T : Nat → TI) (X : Ctx2) (Q : Ex → St → Prop) : Exit → Act → World → Prop
  | .normal, a, w => ∃ s E, Q .normal s ∧ Sim T X s a w E
  | .exit id, a, w => ∃ s E, Q (.exit id) s ∧ Sim T X s a w E
  | .ret, a, w => ∃ s E, Q .ret s ∧ Sim T X s a w E
  | .panic ch, a, w => ∃ v s F', ch = [{ v, recovered := false }] ∧ Q (.pan v) s ∧ a.defers = X.df ∧ Frame X.toCtx w F'
  | _, _, _ => False
def QQ (T : Nat → TI) (X : Ctx2) (Q : Ex → St → Prop) : Exit → Act → World → Prop
  | .normal, a, w => ∃ s E, Q .normal s ∧ Top s ∧ Sim T X s a w E
  | .exit id, a, w => ∃ s E, Q (.exit id) s ∧ Top s ∧ Sim T X s a w E
  | .ret, a, w => ∃ s E, Q .ret s ∧ Top s ∧ Sim T X s a w E
  | .panic ch, a, w => ∃ v s F', ch = [{ v, recovered := false }] ∧ Q (.pan v) s ∧ a.defers = X.df ∧ Frame X.toCtx w F'
  | _, _, _ => False

section
variable {P : Program} {G : Cfg} (ht : TOK P G.T) {X : Ctx2} {s : St} {a : Act} {w : World} {E : Env} {C : CallRel} {J : Inl}
include ht

theorem yields_sound (hs : Sim G.T X s a w E) {ops : Array Oper} {j : Nat} {b : Bool} (h : yields s ops j = some (some b)) : yielded ops a.tmps j = some b := by
  unfold yields at h
  split at h
  · rename_i o ho
    split at h
    · rename_i d hd
      split at h
      · rename_i b' he
        cases h
        have hv := hs.tm d
        rw [he] at hv
        have hv' := RA_val hv
        have hlt : d < a.tmps.size := by
          rcases Nat.lt_or_ge d a.tmps.size with h | h
          · exact h
          · have : a.tmps.getD d undef = undef := by simp [Array.getElem?_eq_none h]
            rw [this] at hv'
            cases hv'
        have hq : a.tmps[d]? = some (.bool b) := by
          rw [Array.getElem?_eq_getElem hlt]
          simp [hlt] at hv'
          rw [hv']
        simp [yielded, ho, hd, hq]
      · cases h
      · cases h
    · cases h
  · cases h

theorem yields_none (hs : Sim G.T X s a w E) {ops : Array Oper} {j : Nat} (h : yields s ops j = some none) : yielded ops a.tmps j = none := by
  unfold yields at h
  split at h
  · rename_i o ho
    split at h
    · rename_i d hd
      split at h
      · cases h
      · rename_i he
        have hv := hs.tm d
        rw [he] at hv
        obtain ⟨ar, hv', hA⟩ := hv
        cases hq : a.tmps[d]? with
        | none => simp [yielded, ho, hd, hq]
        | some x =>
          have : x = .tuple ar := by simpa [hq] using hv'
          subst this
          simp [yielded, ho, hd, hq]
      · cases h
    · cases h
  · cases h

theorem guard_sound (hC : ∀ f ar bs out bs', C f ar bs out bs' → Sound P G.T f ar bs out bs') (hJ : SoundJ P G.T J) (hs : Sim G.T X s a w E) {Pp : Value → Prop} {K : Eff → Prop} {ops : Array Oper} {i : Nat} {o : Oper} (ho : ops[i]? = some o)
    {Qc : Exit → Act → World → Prop} (hQ : PanQ X Pp Qc) {dr : Bool} (htop : dr = false → Top s) (h : wpGuard G C J dr ops o s Pp K) : Go.wpOp P ops Qc i (Nxt G X s o.dst K) a w := by
  unfold Go.wpOp
  simp only [ho]
  unfold wpGuard at h
  split at h
  · rename_i hg
    have hw : Region.wanted o (yielded ops a.tmps) = true := by simp [Region.wanted, hg]
    rw [if_pos hw]
    exact .inl (x_sound ht hC hJ hs hQ o htop h)
  · rename_i j want hg
    split at h
    · rename_i b hy
      have hy' := yields_sound ht hs hy
      cases hb : (b == want) with
      | true =>
        rw [hb] at h
        have hw : Region.wanted o (yielded ops a.tmps) = true := by
          have : b = want := by simpa using hb
          simp [Region.wanted, hg, hy', this]
        rw [if_pos hw]
        exact .inl (x_sound ht hC hJ hs hQ o htop h)
      | false =>
        rw [hb] at h
        have hw : ¬ Region.wanted o (yielded ops a.tmps) = true := by
          have : b ≠ want := by simpa using hb
          simp [Region.wanted, hg, hy', this]
        rw [if_neg hw]
        exact ⟨_, E, h, hs.pure (v := .tup []) o.dst ⟨#[], rfl, trivial⟩⟩
    · rename_i hy
      have hy' := yields_none ht hs hy
      have hw : ¬ Region.wanted o (yielded ops a.tmps) = true := by simp [Region.wanted, hg, hy']
      rw [if_neg hw]
      exact ⟨_, E, h, hs.pure (v := .tup []) o.dst ⟨#[], rfl, trivial⟩⟩
    · exact h.elim

theorem ops_sound (hC : ∀ f ar bs out bs', C f ar bs out bs' → Sound P G.T f ar bs out bs') (hJ : SoundJ P G.T J) {ops : Array Oper} {Q : Ex → St → Prop} : ∀ (l : List Oper) (k : Nat), ops.toList.drop k = l → ∀ {s : St} {a : Act} {w : World} {E : Env},
    wpOps G C J ops Q l s → Top s → Sim G.T X s a w E → Go.wpOps P ops (QQ G.T X Q) (List.range' k l.length) a w
  | [], k, _, s, a, w, E, h, htp, hs => ⟨s, E, h, htp, hs⟩
  | o :: l, k, hd, s, a, w, E, h, htp, hs => by
    simp only [wpOps, forceE_eq] at h
    have ho : ops[k]? = some o := by
      have : (ops.toList.drop k)[0]? = some o := by rw [hd]; rfl
      simpa using this
    have hd' : ops.toList.drop (k + 1) = l := by
      rw [← List.drop_drop, hd]; rfl
    simp only [List.length_cons, List.range'_succ]
    rw [wpOps_cons]
    refine wpOp_mono ?_ (guard_sound ht hC hJ hs ho (Qc := QQ G.T X Q) ?_ (fun _ => htp) h)
    · rintro a' w' ⟨e, E', hK, hs'⟩
      cases he : effOK s e with
      | false => rw [he] at hK; exact hK.elim
      | true =>
        rw [he] at hK
        exact ops_sound hC hJ l (k + 1) hd' hK (htp.app he) hs'
    · intro v a' w' F' hp hd hf
      exact ⟨v, s, F', rfl, hp, hd, hf⟩
/-- Operations in an order that is told. -/
theorem ops_soundL (hC : ∀ f ar bs out bs', C f ar bs out bs' → Sound P G.T f ar bs out bs') (hJ : SoundJ P G.T J) {ops : Array Oper} {Q : Ex → St → Prop} : ∀ (l : List Nat), (∀ x ∈ l, x < ops.size) → ∀ {s : St} {a : Act} {w : World} {E : Env},
    wpOps G C J ops Q (sel ops l) s → Top s → Sim G.T X s a w E → Go.wpOps P ops (QQ G.T X Q) l a w
  | [], _, s, a, w, E, h, htp, hs => ⟨s, E, h, htp, hs⟩
  | k :: l, hl, s, a, w, E, h, htp, hs => by
    have hk := hl k (by simp)
    have ho : ops[k]? = some ops[k] := by simp [hk]
    have e : sel ops (k :: l) = ops[k] :: sel ops l := by simp [sel, hk]
    rw [e] at h
    simp only [wpOps, forceE_eq] at h
    rw [wpOps_cons]
    refine wpOp_mono ?_ (guard_sound ht hC hJ hs ho (Qc := QQ G.T X Q) ?_ (fun _ => htp) h)
    · rintro a' w' ⟨e, E', hK, hs'⟩
      cases he : effOK s e with
      | false => rw [he] at hK; exact hK.elim
      | true =>
        rw [he] at hK
        exact ops_soundL hC hJ l (fun x hx => hl x (by simp [hx])) hK (htp.app he) hs'
    · intro v a' w' F' hp hd hf
      exact ⟨v, s, F', rfl, hp, hd, hf⟩
end
end Go.Fw
/- What an operation hangs on: its operands, and the blocks that it looks into. -/
namespace Go.Fw
open Go Go.RowKit

section
variable {G : Cfg} {s y : St} {C : CallRel} {J : Inl}

theorem ev_loc {x : Operand} (h : ∀ t ∈ opTmps x, s.tm t = y.tm t) : s.ev x = y.ev x := by
  cases x with
  | tmp t => exact h t (by simp [opTmps])
  | _ => rfl
theorem evs_loc : ∀ {l : List Operand}, (∀ t ∈ l.flatMap opTmps, s.tm t = y.tm t) → l.map s.ev = l.map y.ev
  | [], _ => rfl
  | x :: l, h => by
    simp only [List.map_cons]
    rw [ev_loc (x := x) (fun t ht => h t (by simp [ht])), evs_loc (l := l) (fun t ht => h t (by
      rw [List.flatMap_cons]; exact List.mem_append.2 (.inr ht)))]

theorem alive_loc {r : Nat} (h : s.bs r = y.bs r) : alive s r = alive y r := by simp [alive, h]
theorem loadA_loc {x : AV} {t : Nat} (h : ∀ r ∈ refsA x, s.bs r = y.bs r) : loadA G s x t = loadA G y x t := by
  unfold loadA
  split
  · rename_i r o
    rw [h r (by simp [refsA, refsC])]
  · rfl
  · rfl

theorem argK_loc {c : Cell} {K : Cell → List Nat → Prop} (h : ∀ r ∈ refsC c, s.bs r = y.bs r) : argK s c K = argK y c K := by
  cases c <;> try rfl
  case p x => cases x <;> rfl
  case ref r n => simp only [argK]; rw [h r (by simp [refsC])]
theorem argCsK_loc : ∀ {cs : List Cell} {K : List Cell → List Nat → Prop}, (∀ r ∈ cs.flatMap refsC, s.bs r = y.bs r) → argCsK s cs K = argCsK y cs K
  | [], K, _ => rfl
  | c :: cs, K, h => by
    simp only [argCsK]
    rw [argK_loc (s := s) (y := y) (fun r hr => h r (by simp [hr]))]
    congr 1
    funext c' r
    exact argCsK_loc (fun r hr => h r (by rw [List.flatMap_cons]; exact List.mem_append.2 (.inr hr)))
theorem argAK_loc {x : AV} {K : AV → List Nat → Prop} (h : ∀ r ∈ refsA x, s.bs r = y.bs r) : argAK s x K = argAK y x K := by
  unfold argAK
  split
  · exact argK_loc h
  · exact argCsK_loc h
  · rfl
theorem argsK_loc : ∀ {l : List AV} {K : List AV → List Nat → Prop}, (∀ r ∈ l.flatMap refsA, s.bs r = y.bs r) → argsK s l K = argsK y l K
  | [], K, _ => rfl
  | c :: cs, K, h => by
    simp only [argsK]
    rw [argAK_loc (s := s) (y := y) (fun r hr => h r (by simp [hr]))]
    congr 1
    funext c' r
    exact argsK_loc (fun r hr => h r (by rw [List.flatMap_cons]; exact List.mem_append.2 (.inr hr)))

/-- The rows that are handed on are among those that are named. -/
theorem argK_refs {c : Cell} {K : Cell → List Nat → Prop} (h : argK s c K) : argK s c fun c' rs => K c' rs ∧ ∀ r ∈ rs, r ∈ refsC c := by
  cases c with
  | p x => cases x <;> exact ⟨h, by simp⟩
  | nils => exact ⟨h, by simp⟩
  | pv cs o => exact ⟨h, by simp⟩
  | fn f a b => exact ⟨h, by simp⟩
  | ref r n =>
    simp only [argK] at h ⊢
    split at h
    · exact ⟨h.1, h.2, by simp [refsC]⟩
    · exact h.elim
  | ptr r o => exact h.elim
  | vptr r n i o => exact h.elim
  | fnr f a b => exact h.elim
  | win r lo n => exact h.elim
  | mp r => exact h.elim
  | rows r n => exact h.elim
  | ch r => exact h.elim
  | junk => exact h.elim
theorem argK_mono {c : Cell} {K K' : Cell → List Nat → Prop} (hk : ∀ c r, K c r → K' c r) (h : argK s c K) : argK s c K' := by
  cases c with
  | p x => cases x <;> exact hk _ _ h
  | nils => exact hk _ _ h
  | pv cs o => exact hk _ _ h
  | fn f a b => exact hk _ _ h
  | ref r n =>
    simp only [argK] at h ⊢
    split at h
    · exact ⟨h.1, hk _ _ h.2⟩
    · exact h.elim
  | ptr r o => exact h.elim
  | vptr r n i o => exact h.elim
  | fnr f a b => exact h.elim
  | win r lo n => exact h.elim
  | mp r => exact h.elim
  | rows r n => exact h.elim
  | ch r => exact h.elim
  | junk => exact h.elim
theorem argCsK_refs : ∀ {cs : List Cell} {K : List Cell → List Nat → Prop}, argCsK s cs K → argCsK s cs fun c' rs => K c' rs ∧ ∀ r ∈ rs, r ∈ cs.flatMap refsC
  | [], K, h => ⟨h, by simp⟩
  | c :: cs, K, h => by
    refine argK_mono ?_ (argK_refs h)
    rintro c' r ⟨h1, h2⟩
    exact argCsK_mono (fun cs' rs ⟨h3, h4⟩ => ⟨h3, fun q hq => by
      rw [List.flatMap_cons]
      rcases List.mem_append.1 hq with hq | hq
      · exact List.mem_append.2 (.inl (h2 q hq))
      · exact List.mem_append.2 (.inr (h4 q hq))⟩) (argCsK_refs h1)
where argCsK_mono : ∀ {cs : List Cell} {K K' : List Cell → List Nat → Prop}, (∀ c r, K c r → K' c r) → argCsK s cs K → argCsK s cs K'
  | [], _, _, hk, h => hk _ _ h
  | _ :: _, _, _, hk, h => argK_mono (fun _ _ h => argCsK_mono (fun _ _ h => hk _ _ h) h) h
theorem argAK_refs {x : AV} {K : AV → List Nat → Prop} (h : argAK s x K) : argAK s x fun c' rs => K c' rs ∧ ∀ r ∈ rs, r ∈ refsA x := by
  unfold argAK at h ⊢
  split at h
  · exact argK_refs h
  · exact argCsK_refs h
  · exact h.elim
theorem argAK_mono {x : AV} {K K' : AV → List Nat → Prop} (hk : ∀ c r, K c r → K' c r) (h : argAK s x K) : argAK s x K' := by
  unfold argAK at h ⊢
  split at h
  · exact argK_mono (fun _ _ h => hk _ _ h) h
  · exact argCsK_refs.argCsK_mono (fun _ _ h => hk _ _ h) h
  · exact h.elim
theorem argsK_mono : ∀ {l : List AV} {K K' : List AV → List Nat → Prop}, (∀ c r, K c r → K' c r) → argsK s l K → argsK s l K'
  | [], _, _, hk, h => hk _ _ h
  | _ :: _, _, _, hk, h => argAK_mono (fun _ _ h => argsK_mono (fun _ _ h => hk _ _ h) h) h
theorem argsK_refs : ∀ {l : List AV} {K : List AV → List Nat → Prop}, argsK s l K → argsK s l fun c' rs => K c' rs ∧ ∀ r ∈ rs, r ∈ l.flatMap refsA
  | [], K, h => ⟨h, by simp⟩
  | c :: cs, K, h => by
    refine argAK_mono ?_ (argAK_refs h)
    rintro c' r ⟨h1, h2⟩
    exact argsK_mono (fun cs' rs ⟨h3, h4⟩ => ⟨h3, fun q hq => by
      rw [List.flatMap_cons]
      rcases List.mem_append.1 hq with hq | hq
      · exact List.mem_append.2 (.inl (h2 q hq))
      · exact List.mem_append.2 (.inr (h4 q hq))⟩) (argsK_refs h1)

theorem fixB_loc {r : Nat} (h : s.bs r = y.bs r) : fixB s r = fixB y r := by simp [fixB, h]
theorem capsL_loc : ∀ {l : List AV}, (∀ r ∈ l.flatMap refsA, s.bs r = y.bs r) → capsL s l = capsL y l
  | [], _ => rfl
  | x :: l, h => by
    have ih : capsL s l = capsL y l := capsL_loc (fun r hr => h r (by rw [List.flatMap_cons]; exact List.mem_append.2 (.inr hr)))
    unfold capsL
    split
    · rfl
    · rename_i r l' he
      cases he
      rw [h r (by simp [refsA, refsC]), ih]
    · rfl
theorem capsR_loc : ∀ {l : List AV}, (∀ r ∈ l.flatMap refsA, s.bs r = y.bs r) → capsR s l = capsR y l
  | [], _ => rfl
  | x :: l, h => by
    have ih : capsR s l = capsR y l := capsR_loc (fun r hr => h r (by rw [List.flatMap_cons]; exact List.mem_append.2 (.inr hr)))
    unfold capsR
    split
    · rfl
    · rename_i r o l' he
      cases he
      rw [h r (by simp [refsA, refsC]), ih]
    · rename_i cs l' he
      cases he
      rw [ih]
    · rename_i x' l' he
      cases he
      rw [ih]
    · rfl
theorem capsL_refs : ∀ {l : List AV} {m : List Cap} {rs : List Nat}, capsL s l = some (m, rs) → ∀ r ∈ rs, r ∈ l.flatMap refsA
  | [], m, rs, h => by simp [capsL] at h; obtain ⟨rfl, rfl⟩ := h; simp
  | x :: l, m, rs, h => by
    unfold capsL at h
    split at h
    · rename_i he; cases he
    · rename_i r l' he
      cases he
      split at h
      · cases hq : capsL s l with
        | none => simp [hq] at h
        | some p =>
          obtain ⟨m', rs'⟩ := p
          simp [hq] at h
          obtain ⟨rfl, rfl⟩ := h
          intro q hq'
          rw [List.flatMap_cons]
          exact List.mem_append.2 (.inr (capsL_refs hq q hq'))
      · split at h
        · cases hq : capsL s l with
          | none => simp [hq] at h
          | some p =>
            obtain ⟨m', rs'⟩ := p
            simp [hq] at h
            obtain ⟨rfl, rfl⟩ := h
            intro q hq'
            rw [List.flatMap_cons]
            rcases List.mem_cons.1 hq' with rfl | hq'
            · exact List.mem_append.2 (.inl (by simp [refsA, refsC]))
            · exact List.mem_append.2 (.inr (capsL_refs hq q hq'))
        · cases h
      · cases h
    · cases h

theorem argK_any {c : Cell} {K : Cell → List Nat → Prop} (h : argK s c K) : ∃ c' rs, K c' rs ∧ ∀ K', K' c' rs → argK s c K' := by
  cases c with
  | p x => cases x <;> exact ⟨_, _, h, fun _ h => h⟩
  | nils => exact ⟨_, _, h, fun _ h => h⟩
  | pv cs o => exact ⟨_, _, h, fun _ h => h⟩
  | fn f a b => exact ⟨_, _, h, fun _ h => h⟩
  | ref r n =>
    simp only [argK] at h ⊢
    split at h
    · exact ⟨_, _, h.2, fun _ h' => ⟨h.1, h'⟩⟩
    · exact h.elim
  | ptr r o => exact h.elim
  | vptr r n i o => exact h.elim
  | fnr f a b => exact h.elim
  | win r lo n => exact h.elim
  | mp r => exact h.elim
  | rows r n => exact h.elim
  | ch r => exact h.elim
  | junk => exact h.elim
theorem argCsK_any : ∀ {cs : List Cell} {K : List Cell → List Nat → Prop}, argCsK s cs K → ∃ c' rs, K c' rs ∧ ∀ K', K' c' rs → argCsK s cs K'
  | [], K, h => ⟨_, _, h, fun _ h => h⟩
  | c :: cs, K, h => by
    obtain ⟨c', r, h1, h2⟩ := argK_any h
    obtain ⟨cs', rs, h3, h4⟩ := argCsK_any h1
    exact ⟨_, _, h3, fun K' h' => h2 _ (h4 _ h')⟩
theorem argAK_any {x : AV} {K : AV → List Nat → Prop} (h : argAK s x K) : ∃ c' rs, K c' rs ∧ ∀ K', K' c' rs → argAK s x K' := by
  unfold argAK at h
  split at h
  · obtain ⟨c', r, h1, h2⟩ := argK_any h
    exact ⟨_, _, h1, fun K' h' => h2 (fun c r => K' (.one c) r) h'⟩
  · obtain ⟨c', r, h1, h2⟩ := argCsK_any h
    exact ⟨_, _, h1, fun K' h' => h2 (fun c r => K' (.w (.agg c)) r) h'⟩
  · exact h.elim
theorem argsK_any : ∀ {l : List AV} {K : List AV → List Nat → Prop}, argsK s l K → ∃ c' rs, K c' rs ∧ ∀ K', K' c' rs → argsK s l K'
  | [], K, h => ⟨_, _, h, fun _ h => h⟩
  | c :: cs, K, h => by
    obtain ⟨c', r, h1, h2⟩ := argAK_any h
    obtain ⟨cs', rs, h3, h4⟩ := argsK_any h1
    exact ⟨_, _, h3, fun K' h' => h2 _ (h4 _ h')⟩

theorem argsO_loc : ∀ {l : List AV} {j : Nat} {K : List AV → List Nat → List Nat → Prop}, (∀ r ∈ l.flatMap refsA, s.bs r = y.bs r) → argsO s l j K = argsO y l j K
  | [], _, _, _ => rfl
  | c :: cs, j, K, h => by
    have h1 : ∀ r ∈ cs.flatMap refsA, s.bs r = y.bs r := fun r hr => h r (by rw [List.flatMap_cons]; exact List.mem_append.2 (.inr hr))
    have h2 : ∀ r ∈ refsA c, s.bs r = y.bs r := fun r hr => h r (by rw [List.flatMap_cons]; exact List.mem_append.2 (.inl hr))
    unfold argsO
    split
    · exact argsO_loc h1
    · rw [argAK_loc h2]
      congr 1
      funext a' r
      exact argsO_loc h1
theorem argsO_mono : ∀ {l : List AV} {j : Nat} {K K' : List AV → List Nat → List Nat → Prop}, (∀ a f o, K a f o → K' a f o) → argsO s l j K → argsO s l j K'
  | [], _, _, _, hk, h => hk _ _ _ h
  | c :: cs, j, K, K', hk, h => by
    unfold argsO at h ⊢
    split at h
    · exact argsO_mono (fun _ _ _ h => hk _ _ _ h) h
    · exact argAK_mono (fun _ _ h => argsO_mono (fun _ _ _ h => hk _ _ _ h) h) h
theorem argsO_refs : ∀ {l : List AV} {j : Nat} {K : List AV → List Nat → List Nat → Prop}, argsO s l j K → argsO s l j fun a f o => K a f o ∧ (∀ r ∈ f, r ∈ l.flatMap refsA) ∧ ∀ r ∈ o, r ∈ l.flatMap refsA
  | [], _, _, h => ⟨h, by simp, by simp⟩
  | c :: cs, j, K, h => by
    unfold argsO at h ⊢
    split at h
    · rename_i r n
      refine argsO_mono ?_ (argsO_refs h)
      rintro a f o ⟨h1, h2, h3⟩
      refine ⟨h1, fun q hq => by rw [List.flatMap_cons]; exact List.mem_append.2 (.inr (h2 q hq)), fun q hq => ?_⟩
      rw [List.flatMap_cons]
      rcases List.mem_cons.1 hq with rfl | hq
      · exact List.mem_append.2 (.inl (by simp [refsA, refsC]))
      · exact List.mem_append.2 (.inr (h3 q hq))
    · refine argAK_mono ?_ (argAK_refs h)
      rintro c' r ⟨h1, h2⟩
      refine argsO_mono ?_ (argsO_refs h1)
      rintro a f o ⟨h3, h4, h5⟩
      refine ⟨h3, fun q hq => ?_, fun q hq => by rw [List.flatMap_cons]; exact List.mem_append.2 (.inr (h5 q hq))⟩
      rw [List.flatMap_cons]
      rcases List.mem_append.1 hq with hq | hq
      · exact List.mem_append.2 (.inl (h2 q hq))
      · exact List.mem_append.2 (.inr (h4 q hq))
theorem argsO_any : ∀ {l : List AV} {j : Nat} {K : List AV → List Nat → List Nat → Prop}, argsO s l j K → ∃ a f o, K a f o ∧ ∀ K', K' a f o → argsO s l j K'
  | [], _, K, h => ⟨_, _, _, h, fun _ h => h⟩
  | c :: cs, j, K, h => by
    unfold argsO at h
    split at h
    · rename_i r n
      obtain ⟨a, f, o, h1, h2⟩ := argsO_any h
      exact ⟨_, _, _, h1, fun K' h' => h2 (fun a f o => K' (.one (.ref j n) :: a) f (r :: o)) h'⟩
    · rename_i hno
      obtain ⟨c', r, h1, h2⟩ := argAK_any h
      obtain ⟨a, f, o, h3, h4⟩ := argsO_any h1
      refine ⟨_, _, _, h3, fun K' h' => ?_⟩
      unfold argsO
      split
      · exact (hno _ _ rfl).elim
      · exact h2 _ (h4 _ h')
end
end Go.Fw
/- An operation in another state that agrees where it looks; what a walk has found of an operation. -/
namespace Go.Fw
open Go Go.RowKit

section
variable {G : Cfg} {s y : St} {C : CallRel} {J : Inl} {P : Value → Prop} {K : Eff → Prop}

theorem buildA_loc {t : Nat} {l : List (Nat × Operand)} (h : ∀ p ∈ l, s.ev p.2 = y.ev p.2) : buildA G s t l = buildA G y t l := by
  have h1 : (l.all fun p => okBox (s.ev p.2)) = (l.all fun p => okBox (y.ev p.2)) := by
    rw [Bool.eq_iff_iff, List.all_eq_true, List.all_eq_true]
    exact ⟨fun q p hp => by rw [← h p hp]; exact q p hp, fun q p hp => by rw [h p hp]; exact q p hp⟩
  have h2 : (l.map fun p => (p.1, cellsA (s.ev p.2))) = (l.map fun p => (p.1, cellsA (y.ev p.2))) := List.map_congr_left fun p hp => by rw [h p hp]
  simp only [buildA, h1, h2]

theorem evPure_loc {o : Oper} (hT : ∀ t ∈ o.op.operands.toList.flatMap opTmps, s.tm t = y.tm t) (hB : ∀ r ∈ rdB G s o, s.bs r = y.bs r) : evPure G s o.op = evPure G y o.op := by
  have e1 : ∀ x, x ∈ o.op.operands.toList → s.ev x = y.ev x := fun x hx => ev_loc fun t ht => hT t (List.mem_flatMap.2 ⟨x, hx, ht⟩)
  cases hop : o.op with
  | move x => simp only [evPure]; rw [e1 x (by simp [hop, Op.operands])]
  | assign x => simp only [evPure]; rw [e1 x (by simp [hop, Op.operands])]
  | unOp op t x => cases op <;> (try rfl) <;> (simp only [evPure]; rw [e1 x (by simp [hop, Op.operands])])
  | fieldAddr t x f =>
    have hx := e1 x (by simp [hop, Op.operands])
    simp only [evPure, ← hx]
    have : ∀ q, faA (alive s) q (s.ev x) = faA (alive y) q (s.ev x) := by
      intro q
      unfold faA
      cases q with
      | none => rfl
      | some q =>
        obtain ⟨off, sz, ft⟩ := q
        cases he : s.ev x with
        | tup l => rfl
        | w x' =>
          cases x' with
          | agg cs => rfl
          | one c =>
            cases c with
            | ptr r o' => simp only; rw [alive_loc (hB r (by simp [rdB, hop, he, refsA, refsC]))]
            | _ => rfl
    split
    · exact this _
    · rfl
  | field t x f => simp only [evPure]; rw [e1 x (by simp [hop, Op.operands])]
  | load t x =>
    have hx := e1 x (by simp [hop, Op.operands])
    simp only [evPure, ← hx]
    rw [loadA_loc (y := y) (fun r hr => hB r (by simp [rdB, hop, hr]))]
  | extract x i => simp only [evPure]; rw [e1 x (by simp [hop, Op.operands])]
  | nilCheck x =>
    have hx := e1 x (by simp [hop, Op.operands])
    simp only [evPure, ← hx]
    split <;> try rfl
    rename_i r o' he
    rw [alive_loc (hB r (by simp [rdB, hop, he, refsA, refsC]))]
  | build t parts =>
    simp only [evPure]
    rw [buildA_loc (y := y) fun p hp => e1 p.2 (by simp [hop, Op.operands]; exact ⟨p.1, by simpa using hp⟩)]
  | makeInterface t x => simp only [evPure]; rw [e1 x (by simp [hop, Op.operands])]
  | _ => rfl

theorem rowOf_loc {e : Nat} {x : AV} (h : ∀ r ∈ refsA x, s.bs r = y.bs r) : rowOf G s e x = rowOf G y e x := by
  unfold rowOf
  split <;> try rfl
  rename_i r n
  rw [h r (by simp [refsA, refsC])]
theorem appendA_loc {e : Nat} {x : AV} {ys : List (List Value)} {p : Prop} (h : ∀ r ∈ refsA x, s.bs r = y.bs r) (hn : s.nx = y.nx) (hb : s.bs s.nx = y.bs s.nx) : appendA G s e x ys p = appendA G y e x ys p := by
  unfold appendA
  split <;> try rfl
  · rw [← hn, ← hb]
  · rw [← hn, ← hb]
  · rename_i r n
    rw [h r (by simp [refsA, refsC]), hn]
theorem biReq_loc {b : Builtin} {l : List AV} {ts : List Nat} (h : ∀ r ∈ l.flatMap refsA, s.bs r = y.bs r) (hn : s.nx = y.nx) (hb : s.bs s.nx = y.bs s.nx) : biReq G s b l ts = biReq G y b l ts := by
  unfold biReq
  split <;> try rfl
  · rename_i a b t u
    have e1 : ∀ e, rowOf G s e b = rowOf G y e b := fun e => rowOf_loc fun r hr => h r (by simp [hr])
    have e2 : ∀ e ys p, appendA G s e a ys p = appendA G y e a ys p := fun e ys p => appendA_loc (fun r hr => h r (by simp [hr])) hn hb
    simp only [e1]
    split
    · split
      · rw [e2]
      · rfl
    · split
      · split
        · split
          · rfl
          · simp only [e2]
        · rfl
      · rfl
    · rfl
  · rw [hn]
  · rw [hn]
  · rename_i a
    split
    · rename_i r n
      rw [← h r (by simp [refsA, refsC])]
      split
      · rw [hn]
      · rfl
    · rfl
theorem sliceParts_loc {k : Nat} : ∀ {parts : List (Nat × Operand)} {xs : List (List Value)}, (∀ p ∈ parts, s.ev p.2 = y.ev p.2) → sliceParts s k xs parts = sliceParts y k xs parts
  | [], _, _ => rfl
  | (i, x) :: rest, xs, h => by
    have e := h (i, x) (by simp)
    simp only at e
    simp only [sliceParts, e]
    split <;> try rfl
    split <;> try rfl
    rw [sliceParts_loc (fun p hp => h p (by simp [hp]))]
theorem optInt_loc {x : Option Operand} {d : Int} (h : ∀ o, x = some o → s.ev o = y.ev o) : optInt s x d = optInt y x d := by
  unfold optInt
  cases x with
  | none => rfl
  | some o => simp only [h o rfl]
theorem evReq_loc {o : Oper} (hT : ∀ t ∈ o.op.operands.toList.flatMap opTmps, s.tm t = y.tm t) (hB : ∀ r ∈ rdB G s o, s.bs r = y.bs r) (hn : s.nx = y.nx) : evReq G s o.op = evReq G y o.op := by
  have e1 : ∀ x, x ∈ o.op.operands.toList → s.ev x = y.ev x := fun x hx => ev_loc fun t ht => hT t (List.mem_flatMap.2 ⟨x, hx, ht⟩)
  have ep := evPure_loc (G := G) hT hB
  cases hop : o.op with
  | buildSlice t n parts =>
    simp only [evReq]
    have e2 : ∀ k xs, sliceParts s k xs parts.toList = sliceParts y k xs parts.toList := fun k xs => sliceParts_loc fun p hp => e1 p.2 (by simp [hop, Op.operands]; exact ⟨p.1, by simpa using hp⟩)
    simp only [e2]
    rw [← hn, ← hB s.nx (by simp [rdB, hop])]
  | slice t x lo hi mx =>
    have hx := e1 x (by simp [hop, Op.operands])
    have hlo : ∀ d, optInt s lo d = optInt y lo d := fun d => optInt_loc fun o ho => e1 o (by simp [hop, Op.operands, ho])
    have hhi : ∀ d, optInt s hi d = optInt y hi d := fun d => optInt_loc fun o ho => e1 o (by simp [hop, Op.operands, ho])
    have hmx : ∀ m, mx = some m → s.ev m = y.ev m := fun m hm => e1 m (by simp [hop, Op.operands, hm])
    simp only [evReq, hx, hlo, hhi, hn]
    cases mx with
    | none => rfl
    | some m => simp only [hmx m rfl]
  | convert src dst x =>
    have hx := e1 x (by simp [hop, Op.operands])
    have hrow : ∀ e, rowOf G s e (s.ev x) = rowOf G y e (s.ev x) := fun e => rowOf_loc fun r hr => hB r (by simp [rdB, hop, hr])
    simp only [evReq, ← hx, hn]
    split
    · rfl
    · rfl
    · rw [hrow]
    · rfl
  | index t x i =>
    simp only [evReq, e1 x (by simp [hop, Op.operands]), e1 i (by simp [hop, Op.operands]), hn]
  | indexAddr t x i =>
    have hx := e1 x (by simp [hop, Op.operands])
    simp only [evReq, e1 i (by simp [hop, Op.operands]), ← hx, hn]
    have : ∀ r n, s.ev x = .w (.one (.ref r n)) → s.bs r = y.bs r := fun r n h => hB r (by simp [rdB, hop, h, refsA, refsC])
    split
    · simp_all
    · simp_all
    · rename_i e r n i' hk he hi
      rw [this r n he]
    · simp_all
  | load t x =>
    have hx := e1 x (by simp [hop, Op.operands])
    have hl : loadA G s (s.ev x) t = loadA G y (s.ev x) t := loadA_loc (fun r hr => hB r (by simp [rdB, hop, hr]))
    have : ∀ r n i o, s.ev x = .w (.one (.vptr r n i o)) → s.bs r = y.bs r := fun r n i o h => hB r (by simp [rdB, hop, h, refsA, refsC])
    simp only [evReq, ← hx, hl, hn]
    split
    · rename_i r n i o he
      rw [this r n i o he]
    · rw [hl]
  | fieldAddr t x f =>
    have hx := e1 x (by simp [hop, Op.operands])
    have : ∀ r n i o, s.ev x = .w (.one (.vptr r n i o)) → s.bs r = y.bs r := fun r n i o h => hB r (by simp [rdB, hop, h, refsA, refsC])
    rw [hop] at ep
    simp only [evPure, ← hx] at ep
    simp only [evReq, ← hx, hn]
    split
    · rename_i r n i o he
      rw [this r n i o he]
    · split
      · rename_i fs hk
        rw [hk] at ep
        simp only at ep
        rw [ep]
      · rfl
  | _ =>
    rw [hop] at ep
    simp only [evReq, ep, hn]

theorem bsel_mono0 {b : Bool} {X Y X' Y' : Prop} (h1 : X → X') (h2 : Y → Y') (h : bsel b X Y) : bsel b X' Y' := by
  cases b
  · exact h2 h
  · exact h1 h
theorem all_congr0 {α : Type} {f g : α → Bool} : ∀ {l : List α}, (∀ x ∈ l, f x = g x) → l.all f = l.all g
  | [], _ => rfl
  | x :: l, h => by rw [List.all_cons, List.all_cons, h x (by simp), all_congr0 fun x hx => h x (by simp [hx])]
theorem callO_loc {l : List AV} {f : FuncId} {pre caps : List Cap} (hr : ∀ r ∈ l.flatMap refsA, s.bs r = y.bs r) (hn : s.nx = y.nx) (hl : s.lo = y.lo) (q1 : s.bs s.nx = y.bs s.nx)
    (h : argsO s l 0 fun ar fs os => bsel (ownOK s fs os) (wpCallO C f (pre.map capAV ++ ar ++ caps.map capAV) (os.map s.bs) (fun r bs' => bsel (ownRes true s os.length r bs') (K (ownEff s fs os r bs')) False) P) False) :
    argsO y l 0 fun ar fs os => bsel (ownOK y fs os) (wpCallO C f (pre.map capAV ++ ar ++ caps.map capAV) (os.map y.bs) (fun r bs' => bsel (ownRes true y os.length r bs') (K (ownEff y fs os r bs')) False) P) False := by
  rw [← argsO_loc hr]
  refine argsO_mono ?_ (argsO_refs h)
  rintro ar fs os ⟨h1, h2, h3⟩
  have e1 : os.map s.bs = os.map y.bs := List.map_congr_left fun r hq => hr r (h3 r hq)
  have e2 : ownOK s fs os = ownOK y fs os := by
    have e : (os.all fun r => ownVec s r && Nat.ble s.lo r && !memB r fs) = (os.all fun r => ownVec y r && Nat.ble y.lo r && !memB r fs) := all_congr0 fun r hq => by
      simp only [ownVec, hr r (h3 r hq), hl]
    unfold ownOK
    rw [e, hl]
  have e3 : ∀ r bs', ownRes true s os.length r bs' = ownRes true y os.length r bs' := by
    intro r bs'
    simp only [ownRes, freeB, ← hn, q1, Bool.true_or]
  have e4 : ∀ r bs', ownEff s fs os r bs' = ownEff y fs os r bs' := by
    intro r bs'
    have : (fs.map fun r => (r, fixB s r)) = (fs.map fun r => (r, fixB y r)) := List.map_congr_left fun r hq => by rw [fixB_loc (hr r (h2 r hq))]
    simp only [ownEff, this, hn]
  rw [← e2]
  refine bsel_mono0 (fun h1 => ?_) (fun h => h) h1
  rw [← e1]
  obtain ⟨out, bs', g1, g2⟩ := h1.h
  refine ⟨⟨out, bs', g1, ?_⟩⟩
  cases out with
  | pan v => exact g2
  | ret r => simp only [e3, e4] at g2; exact g2

theorem wpOp_loc {o : Oper} (hT : ∀ t ∈ o.op.operands.toList.flatMap opTmps, s.tm t = y.tm t) (hB : ∀ r ∈ rdB G s o, s.bs r = y.bs r) (hn : s.nx = y.nx) (hl : s.lo = y.lo)
    (h : wpOp G C J true o s P K) : wpOp G C J true o y P K := by
  have e1 : ∀ x, x ∈ o.op.operands.toList → s.ev x = y.ev x := fun x hx => ev_loc fun t ht => hT t (List.mem_flatMap.2 ⟨x, hx, ht⟩)
  cases hop : o.op with
  | pick c a b =>
    simp only [wpOp, hop] at h ⊢
    rw [← e1 c (by simp [hop, Op.operands]), ← e1 a (by simp [hop, Op.operands]), ← e1 b (by simp [hop, Op.operands]), ← hn]
    exact h
  | alloc t =>
    simp only [wpOp, hop] at h ⊢
    rw [← hn, ← hB s.nx (by simp [rdB, hop])]
    exact h
  | box t x =>
    simp only [wpOp, hop] at h ⊢
    rw [← hn, ← hB s.nx (by simp [rdB, hop]), ← e1 x (by simp [hop, Op.operands])]
    exact h
  | store t a x =>
    simp only [wpOp, hop] at h ⊢
    rw [← hn, ← e1 a (by simp [hop, Op.operands]), ← e1 x (by simp [hop, Op.operands])]
    split at h
    · rename_i r off he
      rw [← hB r (by simp [rdB, hop, he, refsA, refsC])]
      exact h
    · rename_i r n i off he
      rw [← hB r (by simp [rdB, hop, he, refsA, refsC])]
      exact h
    · exact h.elim
  | binOp op t a b ty =>
    simp only [wpOp, hop] at h ⊢
    rw [← hn, ← e1 a (by simp [hop, Op.operands]), ← e1 b (by simp [hop, Op.operands])]
    exact h
  | panic x =>
    simp only [wpOp, hop] at h ⊢
    rw [← e1 x (by simp [hop, Op.operands])]
    exact h
  | makeFunc fn first caps =>
    have hf : ∀ t ∈ first.toList.flatMap opTmps, s.tm t = y.tm t := fun t ht => hT t (by
      obtain ⟨x, hx, hxt⟩ := List.mem_flatMap.1 ht
      exact List.mem_flatMap.2 ⟨x, by simp [hop, Op.operands]; exact .inl (by simpa using hx), hxt⟩)
    have hc : ∀ t ∈ caps.toList.flatMap opTmps, s.tm t = y.tm t := fun t ht => hT t (by
      obtain ⟨x, hx, hxt⟩ := List.mem_flatMap.1 ht
      exact List.mem_flatMap.2 ⟨x, by simp [hop, Op.operands]; exact .inr (by simpa using hx), hxt⟩)
    cases fn with
    | func f =>
      simp only [wpOp, hop] at h ⊢
      have hr : ∀ r ∈ (caps.toList.map s.ev).flatMap refsA, s.bs r = y.bs r := fun r hr => hB r (by
        simp only [rdB, hop]
        rw [List.flatMap_append]
        refine List.mem_append.2 (.inr ?_)
        simpa [List.flatMap_map] using hr)
      have hr' : ∀ r ∈ (first.toList.map s.ev).flatMap refsA, s.bs r = y.bs r := fun r hr => hB r (by
        simp only [rdB, hop]
        rw [List.flatMap_append]
        refine List.mem_append.2 (.inl ?_)
        simpa [List.flatMap_map] using hr)
      rw [← hn, ← hl, ← evs_loc hf, ← evs_loc hc, ← capsL_loc hr, ← capsR_loc hr, ← capsR_loc hr']
      refine bsel_mono0 (fun h => h) (fun h => ?_) h
      split at h
      · rename_i pre hp
        split at h
        · rename_i m rs hcp
          have : (rs.map fun r => (r, fixB s r)) = (rs.map fun r => (r, fixB y r)) := List.map_congr_left fun r hq => by rw [fixB_loc (hr r (capsL_refs hcp r hq))]
          rw [← this]
          exact h
        · exact h.elim
      · exact h.elim
    | _ => simp [wpOp, hop, evReq, evPure] at h
  | call c =>
    have hc : ∀ t ∈ c.args.toList.flatMap opTmps, s.tm t = y.tm t := fun t ht => hT t (by
      obtain ⟨x, hx, hxt⟩ := List.mem_flatMap.1 ht
      exact List.mem_flatMap.2 ⟨x, by simp [hop, Op.operands, Call.operands]; exact .inr (by simpa using hx), hxt⟩)
    have hr : ∀ r ∈ (c.args.toList.map s.ev).flatMap refsA, s.bs r = y.bs r := fun r hr => hB r (by
      simp only [rdB, hop]
      refine List.mem_append_right _ ?_
      simpa [List.flatMap_map] using hr)
    simp only [wpOp, hop] at h ⊢
    split at h
    · rename_i hg
      split at h
      · rename_i x t e1' e2'
        have ex : s.ev x = y.ev x := ev_loc fun t ht => hc t (by rw [e1']; simp [ht])
        have this : ∀ r n, s.ev x = .w (.one (.ref r n)) → s.bs r = y.bs r := fun r n h => hr r (by rw [e1']; simp [h, refsA, refsC])
        rw [← ex, ← hn]
        split at h
        · simp_all
        · simp_all
        · simp_all
        · simp_all
        · rename_i e r n hk he
          rw [← this r n he]
          simp_all
        · exact h.elim
      · exact h.elim
    · rename_i b hnl hg
      rw [← evs_loc hc, ← biReq_loc hr hn (hB s.nx (by simp [rdB, hop, callNx, hg]))]
      exact h
    · rename_i g hg
      have eg : s.ev g = y.ev g := e1 g (by simp [hop, Op.operands, Call.operands, hg])
      rw [← eg, ← hn, ← hl, ← evs_loc hc]
      split at h
      · exact h.elim
      · rename_i f pre caps he
        refine bsel_mono0 (fun h => h.elim) (fun h => ?_) h
        cases hoc : ownCall G g with
        | true =>
          rw [hoc] at h
          exact callO_loc hr hn hl (hB s.nx (by simp [rdB, hop, callNx, hg, hoc])) h
        | false =>
          rw [hoc] at h
          revert h
          show _ → _
          intro h
          show argsK _ _ _
          rw [← argsK_loc hr]
          refine argsK_mono ?_ (argsK_refs h)
          rintro ar rs ⟨h1, h2⟩
          have : (rs.map fun r => (r, fixB s r)) = (rs.map fun r => (r, fixB y r)) := List.map_congr_left fun r hq => by rw [fixB_loc (hr r (h2 r hq))]
          rw [← this]
          exact h1
      · exact h.elim
    · exact h.elim
  | _ =>
    have he := evReq_loc (G := G) hT hB hn
    rw [hop] at he
    simp only [wpOp, hop] at h ⊢
    rw [← he]
    exact h

theorem Req.found {r : Req} (h : r.wp K) : ∃ e, r.wp (fun e' => e' = e) ∧ K e := by
  cases r with
  | eff e => exact ⟨e, rfl, h⟩
  | side p e => exact ⟨e, ⟨h.l, rfl⟩, h.r⟩
  | askB b f => exact ⟨f b, ⟨fun b' e => by rw [e]⟩, h.h _ rfl⟩
  | askN b f => exact ⟨f b, ⟨fun b' e => by rw [e]⟩, h.h _ rfl⟩
  | idx p xs i k f =>
    obtain ⟨hp, ⟨es, h0, h1, h2, h3⟩⟩ := h
    cases hf : f es with
    | none => rw [hf] at h3; exact h3.elim
    | some e =>
      rw [hf] at h3
      exact ⟨e, ⟨hp, ⟨es, h0, h1, h2, by rw [hf]⟩⟩, h3⟩
  | bytes p xs f =>
    obtain ⟨hp, ⟨l, h1, h2⟩⟩ := h
    exact ⟨f l, ⟨hp, ⟨l, h1, rfl⟩⟩, h2⟩
theorem Req.mono {K K' : Eff → Prop} (hk : ∀ e, K e → K' e) {r : Req} (h : r.wp K) : r.wp K' := by
  cases r with
  | eff e => exact hk _ h
  | side p e => exact ⟨h.l, hk _ h.r⟩
  | askB b f => exact ⟨fun b' e => hk _ (h.h _ e)⟩
  | askN b f => exact ⟨fun b' e => hk _ (h.h _ e)⟩
  | idx p xs i k f =>
    obtain ⟨hp, ⟨es, h0, h1, h2, h3⟩⟩ := h
    refine ⟨hp, ⟨es, h0, h1, h2, ?_⟩⟩
    cases hf : f es with
    | none => rw [hf] at h3; exact h3.elim
    | some e => rw [hf] at h3; exact hk _ h3
  | bytes p xs f =>
    obtain ⟨hp, ⟨l, h1, h2⟩⟩ := h
    exact ⟨hp, ⟨l, h1, hk _ h2⟩⟩

theorem callO_found {l : List AV} {f : FuncId} {pre caps : List Cap} {A : Value → Prop} {B : Prop}
    (h : argsO s l 0 fun ar fs os => bsel (ownOK s fs os) (wpCallO C f (pre.map capAV ++ ar ++ caps.map capAV) (os.map s.bs) (fun r bs' => bsel (ownRes true s os.length r bs') (K (ownEff s fs os r bs')) False) (fun v => A v ∧ B)) False) :
    (∃ e, (argsO s l 0 fun ar fs os => bsel (ownOK s fs os) (wpCallO C f (pre.map capAV ++ ar ++ caps.map capAV) (os.map s.bs) (fun r bs' => bsel (ownRes true s os.length r bs') (ownEff s fs os r bs' = e) False) A) False) ∧ K e) ∨
    (B ∧ argsO s l 0 fun ar fs os => bsel (ownOK s fs os) (wpCallO C f (pre.map capAV ++ ar ++ caps.map capAV) (os.map s.bs) (fun r bs' => bsel (ownRes true s os.length r bs') False False) A) False) := by
  obtain ⟨ar, fs, os, hcall, hmk⟩ := argsO_any h
  cases hok : ownOK s fs os with
  | false => rw [hok] at hcall; exact hcall.elim
  | true =>
    rw [hok] at hcall
    obtain ⟨out, bs', hc, ho⟩ := hcall.h
    cases out with
    | pan v =>
      refine .inr ⟨ho.2, hmk _ ?_⟩
      rw [hok]
      exact ⟨⟨.pan v, bs', hc, ho.1⟩⟩
    | ret r =>
      simp only at ho
      cases hres : ownRes true s os.length r bs' with
      | false => rw [hres] at ho; exact ho.elim
      | true =>
        rw [hres] at ho
        refine .inl ⟨_, hmk _ ?_, ho⟩
        rw [hok]
        refine ⟨⟨.ret r, bs', hc, ?_⟩⟩
        show bsel (ownRes true s os.length r bs') _ _
        rw [hres]

/-- What a walk in the text's order has found: the effect, or that it panics. -/
theorem wpOp_found {o : Oper} {A : Value → Prop} {B : Prop} (h : wpOp G C J true o s (fun v => A v ∧ B) K) :
    (∃ e, wpOp G C J true o s A (fun e' => e' = e) ∧ K e) ∨ (B ∧ wpOp G C J true o s A fun _ => False) := by
  cases hop : o.op with
  | pick c a b =>
    simp only [wpOp, hop] at h ⊢
    split at h
    · exact .inl ⟨_, rfl, h⟩
    · exact h.elim
  | alloc t =>
    simp only [wpOp, hop] at h ⊢
    split at h
    · rename_i hq
      cases hk : okT G t <;> rw [hk] at h
      · exact h.elim
      · exact .inl ⟨_, rfl, h⟩
    · exact h.elim
  | box t x =>
    simp only [wpOp, hop] at h ⊢
    split at h
    · cases hk : okBox (s.ev x) <;> rw [hk] at h
      · exact h.elim
      · exact .inl ⟨_, rfl, h⟩
    · exact h.elim
  | store t a x =>
    simp only [wpOp, hop] at h ⊢
    split at h
    · split at h
      · rename_i cs hr
        cases hk : (okT G t && okBox (s.ev x) && Nat.beq (cellsA (s.ev x)).length (sizeT G t) && Nat.ble (_ + sizeT G t) cs.length) <;> rw [hk] at h
        · exact h.elim
        · exact .inl ⟨_, rfl, h⟩
      · exact h.elim
    · split at h
      · rename_i e xs vs hr hv
        cases hk : (okT G t && okBox (s.ev x) && Nat.beq vs.length (sizeT G t) && Nat.ble (_ + sizeT G t) (sizeT G e)) <;> rw [hk] at h
        · exact h.elim
        · obtain ⟨hn, ⟨es, h0, h1, h2, h3⟩⟩ := h
          exact .inl ⟨_, ⟨hn, ⟨es, h0, h1, h2, rfl⟩⟩, h3⟩
      · exact h.elim
    · exact h.elim
  | binOp op t a b ty =>
    simp only [wpOp, hop] at h ⊢
    split at h
    · rename_i k u k' v e1 e2
      split at h
      · exact .inl ⟨_, ⟨h.l, ⟨fun n e => by rw [e]⟩⟩, h.r.h _ rfl⟩
      · by_cases hkk : k = k'
        · simp only [if_pos hkk] at h ⊢
          split at h
          · exact .inl ⟨_, ⟨fun n e => by rw [e]⟩, h.h _ rfl⟩
          · split at h
            · exact .inl ⟨_, ⟨fun n e => by rw [e]⟩, h.h _ rfl⟩
            · exact h.elim
        · simp only [if_neg hkk] at h
    · split at h
      · exact .inl ⟨_, ⟨fun n e => by rw [e]⟩, h.h _ rfl⟩
      · split at h
        · exact .inl ⟨_, ⟨h.l, rfl⟩, h.r⟩
        · exact h.elim
    · split at h
      · split at h
        · exact .inl ⟨_, ⟨fun n e => by rw [e]⟩, h.h _ rfl⟩
        · exact .inl ⟨_, ⟨fun n e => by rw [e]⟩, h.h _ rfl⟩
        · exact h.elim
      · exact h.elim
    · split at h
      · split at h
        · exact .inl ⟨_, ⟨fun n e => by rw [e]⟩, h.h _ rfl⟩
        · exact .inl ⟨_, ⟨fun n e => by rw [e]⟩, h.h _ rfl⟩
        · exact h.elim
      · exact h.elim
    · exact h.elim
  | panic x =>
    simp only [wpOp, hop] at h ⊢
    split at h
    · exact .inr ⟨h.2, h.1⟩
    · exact h.elim
  | makeFunc fn first caps =>
    cases fn with
    | func f =>
      simp only [wpOp, hop] at h ⊢
      cases hsh : G.shared f with
      | true =>
        simp only [hsh, bsel] at h ⊢
        split at h
        · exact .inl ⟨_, rfl, h⟩
        · exact h.elim
      | false =>
      simp only [hsh, bsel] at h ⊢
      split at h
      · split at h
        · rename_i m rs hcp
          cases hk : (rs.all fun r => Nat.ble s.lo r) <;> simp only [hk] at h
          · exact .inl ⟨_, rfl, h⟩
        · exact h.elim
      · exact h.elim
    | _ => simp [wpOp, hop, evReq, evPure] at h
  | call c =>
    simp only [wpOp, hop] at h ⊢
    split at h
    · split at h
      · split at h
        · exact .inl ⟨_, rfl, h⟩
        · exact .inl ⟨_, ⟨fun _ => rfl⟩, h.h (fun h => by cases h)⟩
        · exact .inl ⟨_, ⟨fun _ => rfl⟩, h.h (fun h => by cases h)⟩
        · exact .inl ⟨_, rfl, h⟩
        · split at h
          · exact .inl ⟨_, ⟨h.l, ⟨fun _ => rfl⟩⟩, h.r.h (fun h => by cases h)⟩
          · exact h.elim
        · exact h.elim
      · exact h.elim
    · split at h
      · obtain ⟨e, h1, h2⟩ := Req.found h
        exact .inl ⟨e, h1, h2⟩
      · exact h.elim
    · split at h
      · exact h.elim
      · rename_i f pre caps he
        cases hin : inlCall G _ (c.args.toList.map s.ev) with
        | true => rw [hin] at h; exact h.elim
        | false =>
        simp only [hin, bsel] at h ⊢
        cases hown : ownCall G _ with
        | true =>
          simp only [hown] at h
          exact callO_found h
        | false =>
          simp only [hown] at h ⊢
          obtain ⟨ar, rs, hcall, hmk⟩ := argsK_any h
          obtain ⟨out, hc, ho⟩ := hcall
          cases out with
          | ret r =>
            simp only at ho
            cases hn : noSlA r with
            | true =>
              rw [hn] at ho
              refine .inl ⟨_, hmk _ ⟨⟨.ret r, hc, ?_⟩⟩, ho⟩
              show bsel (noSlA r) _ _
              rw [hn]
            | false =>
              rw [hn] at ho
              cases hk : (rs.all fun r => Nat.ble s.lo r) with
              | false => rw [hk] at ho; exact ho.elim
              | true =>
                rw [hk] at ho
                refine .inl ⟨_, hmk _ ⟨⟨.ret r, hc, ?_⟩⟩, ho⟩
                show bsel (noSlA r) _ (bsel _ _ _)
                rw [hn, hk]
          | pan v => exact .inr ⟨ho.2, hmk _ ⟨⟨.pan v, hc, ho.1⟩⟩⟩
      · exact h.elim
    · exact h.elim
  | _ =>
    simp only [wpOp, hop] at h ⊢
    split at h
    · obtain ⟨e, h1, h2⟩ := Req.found h
      exact .inl ⟨e, h1, h2⟩
    · exact h.elim
end
end Go.Fw
