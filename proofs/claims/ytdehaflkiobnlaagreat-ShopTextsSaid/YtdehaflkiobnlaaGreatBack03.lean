/- A part of the proof of Rows.ShopBackSaid: what ShopBack answers, whatever the arguments; it stands under no condition. -/
import Derived.Test.YtdehaflkiobnlaaGreatBack02
import Derived.Laws.IdiomStrings
import Derived.Lib.UnsafeStr
set_option linter.unusedVariables false
set_option linter.unusedSimpArgs false
set_option linter.unusedSectionVars false
set_option linter.deprecated false
/- Operations that ask for something run well: reading and writing rows; all of them together. -/
namespace Go.Fw
open Go Go.RowKit

section
variable {P : Program} {G : Cfg} (ht : TOK P G.T) {X : Ctx2} {s : St} {a : Act} {w : World} {E : Env} {C : CallRel} {J : Inl} {Pp : Value → Prop} {Qc : Exit → Act → World → Prop} {K : Eff → Prop}

omit ht in
theorem byteRow_flat : ∀ l : List UInt8, (byteRow l).flatten = l.map fun c => Value.int .u8 c.toNat
  | [] => rfl
  | c :: l => by
    show [Value.int .u8 c.toNat] ++ (byteRow l).flatten = _
    rw [byteRow_flat l]; rfl
omit ht in
theorem idx_getD (xs : List UInt8) (i : Nat) (h : i < xs.length) : (⟨⟨xs⟩⟩ : ByteArray)[i]? = some (xs.getD i 0) := by
  have h' : i < (⟨⟨xs⟩⟩ : ByteArray).size := h
  rw [getElem?_pos (⟨⟨xs⟩⟩ : ByteArray) i h']
  have : (⟨⟨xs⟩⟩ : ByteArray)[i] = xs[i] := rfl
  rw [this]
  simp [h]

include ht
theorem part_sound {bs : Nat → Blk} {t off : Nat} {cs : List Cell} {ar : Array Value} {v : W1} (hA : A2 (RC1 bs w E) cs ar.toList) (hm : mkW G t (cs.drop off) = some v) :
    ∃ val, (part t ar off).run P w = .ok val w ∧ RW bs w E v val := by
  have hA' := hA.drop off
  unfold mkW at hm
  have agg : ∀ (_ : (G.T t).k ≠ .other) (_ : aggK (G.T t).k = true) (_ : (bif Nat.ble (G.T t).size (cs.drop off).length then some (W1.agg ((cs.drop off).take (G.T t).size)) else none) = some v),
      ∃ val, (part t ar off).run P w = .ok val w ∧ RW bs w E v val := by
    intro h1 h2 h3
    cases hle : Nat.ble (G.T t).size (cs.drop off).length
    · rw [hle] at h3; cases h3
    · simp only [hle, cond_true, Option.some.injEq] at h3
      refine ⟨.agg (ar.extract off (off + (G.T t).size)), ?_, ?_⟩
      · unfold part
        rw [Sem.run_bind, ht.isAgg h1]
        simp only [h2, Result.andThen_ok, if_true]
        simp [Sem.run_bind, ht.sizeOf h1]
      · subst h3
        refine ⟨_, rfl, ?_⟩
        have := hA'.take (G.T t).size
        simpa [List.take_drop, Nat.add_comm] using this
  have one : ∀ (_ : (G.T t).k ≠ .other) (_ : aggK (G.T t).k = false) (_ : headC (cs.drop off) = some v),
      ∃ val, (part t ar off).run P w = .ok val w ∧ RW bs w E v val := by
    intro h1 h2 h3
    clear hm agg
    cases hc : cs.drop off with
    | nil => rw [hc] at h3; simp [headC] at h3
    | cons c cs' =>
      rw [hc] at h3 hA'
      simp only [headC, Option.some.injEq] at h3
      subst h3
      cases hu : ar.toList.drop off with
      | nil => rw [hu] at hA'; exact hA'.elim
      | cons u us =>
        rw [hu] at hA'
        have hg : ar[off]? = some u := by
          have : (ar.toList.drop off)[0]? = some u := by rw [hu]; rfl
          simpa using this
        refine ⟨u, ?_, hA'.1.1, ?_⟩
        · unfold part
          rw [Sem.run_bind, ht.isAgg h1]
          simp only [h2, Result.andThen_ok]
          simp [hg]
        · split
          · trivial
          · exact hA'.1.2
  cases hk : (G.T t).k <;> rw [hk] at hm agg one <;> simp only [aggK] at agg one
  case struct fs => exact agg (by simp) trivial hm
  case arr n e => exact agg (by simp) trivial hm
  case other => cases hm
  all_goals exact one (by simp) trivial hm

/-- A place in a row of one's own. -/
theorem vptr_val (hs : Sim G.T X s a w E) {r n i o e : Nat} {xs : List (List Value)} {fz : Bool} (hr : s.bs r = .vec e xs fz) (hn : xs.length = n) {y : Value} (hy : RA s.bs w E (.one (.vptr r n i o)) y) (hne : xs ≠ []) :
    ∃ b, (E.sv r).ownBlock = some b ∧ y = .pointer (some ⟨b, i * (G.T e).size + o, none⟩) := by
  have h1 := hy.1
  simp only [RC, hr] at h1
  obtain ⟨b, k, q1, q2, q3⟩ := h1.2 hn
  have hB := hs.bl.blk r
  rw [hr] at hB
  cases xs with
  | nil => exact absurd rfl hne
  | cons z zs =>
    have : k = (G.T e).size := (q2 z (by simp)).symm.trans (hB.1 z (by simp)).1
    subst this
    exact ⟨b, q1, q3⟩

theorem req_sound (hs : Sim G.T X s a w E) (o : Oper) {r : Req} (h : evReq G s o.op = some r) (hw : r.wp K) :
    o.upon P a (Nxt G X s o.dst K) Qc ((execOp a.eval o).run P w) := by
  have pure_ : ∀ {v}, evPure G s o.op = some v → K ⟨v, [], s.nx⟩ → o.upon P a (Nxt G X s o.dst K) Qc ((execOp a.eval o).run P w) := by
    intro v hv hK
    obtain ⟨val, h1, h2⟩ := evPure_sound ht hs o hv
    exact fin_pure hs o h1 h2 hK
  cases hop : o.op with
  | buildSlice t n parts => exact buildSlice_sound ht hs o hop h hw
  | slice t x lo hi mx => exact slice_sound ht hs o hop h hw
  | index t x i =>
    rw [hop] at h
    simp only [evReq] at h
    have hx := hs.ev x
    split at h
    · rename_i xs i' hk he hi
      cases h
      obtain ⟨⟨h0, h1⟩, hK⟩ := hw
      rw [he] at hx
      obtain ⟨k, hiv⟩ := intOf_sound hs hi
      refine fin_pure hs o (val := .int .u8 (xs.getD i'.toNat 0).toNat) ?_ (RA_val_mk _ rfl) hK
      have hget := idx_getD xs i'.toNat (by omega)
      simp [execOp, hop, RA_val hx, hiv, Instr.index, asIntOf, run_underlying (ht.str hk), h0, hget]
    · rename_i n e cs i' hk he hi
      split at h
      · rename_i v hv
        cases h
        obtain ⟨⟨h0, h1⟩, hK⟩ := hw
        rw [he] at hx
        obtain ⟨ar, hxv, hA⟩ := hx
        obtain ⟨k, hiv⟩ := intOf_sound hs hi
        have hu := ht.arr hk
        have hne : (G.T e).k ≠ .other := by
          intro h'
          unfold mkW at hv
          rw [h'] at hv
          cases hv
        have hsz := ht.sizeOf hne w
        have hag := ht.isAgg hne w
        have hA' := hA.drop (i'.toNat * (G.T e).size)
        have key := part_sound (w := w) (E := E) (bs := s.bs) ht (off := i'.toNat * (G.T e).size) hA hv
        obtain ⟨val, hrun, hval⟩ := key
        refine fin_pure hs o (v := .w v) (val := val) ?_ hval hK
        simp [execOp, hop, hxv, hiv, Instr.index, asIntOf, run_underlying hu, h0, h1, hsz, hrun]
      · cases h
    · cases h
  | indexAddr t x i =>
    rw [hop] at h
    simp only [evReq] at h
    have hx := hs.ev x
    split at h
    · rename_i e xs i' hk he hi
      cases hok : okT G e with
      | false => rw [hok] at h; cases h
      | true =>
        rw [hok] at h
        cases h
        obtain ⟨_, ⟨es, h0, hes, hl, hK⟩⟩ := hw
        rw [he] at hx
        obtain ⟨k, hiv⟩ := intOf_sound hs hi
        obtain ⟨val, h1, h2⟩ := idx_sound (RA_sl hx) hk hok (ik := k) h0 hes hl ht
        refine fin_pure hs o (val := val) ?_ h2 hK
        simp [execOp, hop, hiv, h1]
    · rename_i e xs i' hk he hi
      cases hok : okT G e with
      | false => rw [hok] at h; cases h
      | true =>
        rw [hok] at h
        cases h
        obtain ⟨_, ⟨es, h0, hes, hl, hK⟩⟩ := hw
        rw [he] at hx
        obtain ⟨k, hiv⟩ := intOf_sound hs hi
        have hx' : RSl w E.F xs false (a.eval x) := by
          obtain ⟨ad, cap, q1, q2, q3, q4⟩ := hx.1
          exact ⟨ad, cap, q1, q2, by simp, q4⟩
        obtain ⟨val, h1, h2⟩ := idx_sound hx' hk hok (ik := k) h0 hes hl ht
        refine fin_pure hs o (val := val) ?_ h2 hK
        simp [execOp, hop, hiv, h1]
    · rename_i e r' n i' hk he hi
      split at h
      · rename_i e' xs fz hr
        cases hc : (okT G e && Nat.beq e e') with
        | false => rw [hc] at h; cases h
        | true =>
          rw [hc] at h
          cases h
          simp only [Bool.and_eq_true] at hc
          have := Nat.eq_of_beq_eq_true hc.2
          subst this
          obtain ⟨⟨hn, h0, h1⟩, hK⟩ := hw
          rw [he] at hx
          obtain ⟨k, hiv⟩ := intOf_sound hs hi
          have hsz : (sizeOf e).run P w = .ok (G.T e).size w := ht.sizeOf (okT_ne ht hc.1) w
          have hB := hs.bl.blk r'
          rw [hr] at hB
          have hv : a.eval x = E.sv r' := by
            have h1 := hx.1
            simp only [RC, hr] at h1
            exact h1.2 hn
          rcases hB.2.2.2.1.2 with ⟨_, h00⟩ | ⟨g, cap, cur, hsv, _, _, hnc, _⟩
          · omega
          · refine fin_pure hs o (v := .one (.vptr r' n i'.toNat 0)) (val := .pointer (some ⟨g, i'.toNat * (G.T e).size, none⟩)) ?_ ⟨?_, rfl⟩ hK
            · have hb : 0 ≤ i' ∧ i' < (xs.length : Int) := ⟨h0, by omega⟩
              simp [execOp, hop, hiv, hv, hsv, Instr.indexAt, asIntOf, run_underlying (ht.slice hk), hb, hsz, addr_add]
            · simp only [RC, hr]
              exact ⟨by omega, fun _ => ⟨g, (G.T e).size, by rw [hsv]; rfl, fun es he => (hB.1 es he).1, rfl⟩⟩
      · cases h
    · cases h
  | convert src dst x =>
    rw [hop] at h
    simp only [evReq] at h
    have hx := hs.ev x
    split at h
    · rename_i k1 k k2 n hk1 hk he
      cases h
      rw [he] at hx
      have hu1 := ht.int hk1
      have hu := ht.int hk
      refine fin_pure hs o (val := .int k (k.wrap n)) ?_ (RA_val_mk _ rfl) (hw.h _ rfl)
      simp [execOp, hop, RA_val hx, convert, run_underlying hu1, run_underlying hu, Conv.intToInt]
    · rename_i e l hk1 hk he
      split at h
      · rename_i hke
        cases h
        obtain ⟨hlen, hK⟩ := hw
        rw [he] at hx
        have hr := run_bytes_of_string (P := P) w src dst e ⟨⟨l⟩⟩ (ht.str hk1) (ht.slice hk) (ht.int hke)
        have hexec : (execOp a.eval o).run P w = .ok (.value (.slice (some ⟨w.heap.size, 0, none⟩) l.length (grownCap w l.length 0 e)))
            (w.drew.alloc (.cells (bytesRow ⟨⟨l⟩⟩ (grownCap w l.length 0 e)) e ((bytesRow ⟨⟨l⟩⟩ (grownCap w l.length 0 e)).size, (bytesRow ⟨⟨l⟩⟩ (grownCap w l.length 0 e)).size + 1))) := by
          have hsz : (⟨⟨l⟩⟩ : ByteArray).size = l.length := rfl
          rw [hsz] at hr
          simp [execOp, hop, RA_val hx, hr]
        rw [hexec]
        have hold : ∀ b, b < w.heap.size → (w.drew.alloc (.cells (bytesRow ⟨⟨l⟩⟩ (grownCap w l.length 0 e)) e ((bytesRow ⟨⟨l⟩⟩ (grownCap w l.length 0 e)).size, (bytesRow ⟨⟨l⟩⟩ (grownCap w l.length 0 e)).size + 1))).heap[b]? = w.heap[b]? := fun b hb => heap_alloc_old w.drew _ b hb
        have hfr : Frame ⟨w, E.F, fun _ => False⟩ (w.drew.alloc (.cells (bytesRow ⟨⟨l⟩⟩ (grownCap w l.length 0 e)) e ((bytesRow ⟨⟨l⟩⟩ (grownCap w l.length 0 e)).size, (bytesRow ⟨⟨l⟩⟩ (grownCap w l.length 0 e)).size + 1))) (fun b => E.F b ∨ b = w.heap.size) :=
          { flt := fun b hb => by
              rw [show (w.drew.alloc (.cells (bytesRow ⟨⟨l⟩⟩ (grownCap w l.length 0 e)) e ((bytesRow ⟨⟨l⟩⟩ (grownCap w l.length 0 e)).size, (bytesRow ⟨⟨l⟩⟩ (grownCap w l.length 0 e)).size + 1))).heap.size = w.heap.size + 1 from size_alloc w.drew _]
              rcases hb with hb | rfl
              · have := (hs.fr.flt b hb).1
                exact ⟨by omega, .inl hb⟩
              · exact ⟨by omega, .inr (Nat.le_refl _)⟩
            fge := fun b hb => .inl hb, os := rfl, tape := rfl, output := rfl
            grow := by
              rw [show (w.drew.alloc (.cells (bytesRow ⟨⟨l⟩⟩ (grownCap w l.length 0 e)) e ((bytesRow ⟨⟨l⟩⟩ (grownCap w l.length 0 e)).size, (bytesRow ⟨⟨l⟩⟩ (grownCap w l.length 0 e)).size + 1))).heap.size = w.heap.size + 1 from size_alloc w.drew _]
              exact Nat.le_succ _
            keep := fun b hb _ => hold b hb }
        have hge := grownCap_ge w l.length 0 e
        have hbl : (byteRow l).length = l.length := by simp [byteRow]
        have hv : RA (fun _ => .none) (w.drew.alloc (.cells (bytesRow ⟨⟨l⟩⟩ (grownCap w l.length 0 e)) e ((bytesRow ⟨⟨l⟩⟩ (grownCap w l.length 0 e)).size, (bytesRow ⟨⟨l⟩⟩ (grownCap w l.length 0 e)).size + 1)))
            ⟨E.σ, E.sv, fun b => E.F b ∨ b = w.heap.size⟩ (.sl (byteRow l)) (.slice (some ⟨w.heap.size, 0, none⟩) l.length (grownCap w l.length 0 e)) := by
          refine ⟨⟨_, _, by rw [hbl], by rw [hbl]; exact hge, by simp, by rw [hbl]; exact hlen, 1, ?_, fun _ => ⟨w.heap.size, 0, rfl, .inr rfl, fun i es hi j u hj => ?_⟩⟩, rfl⟩
          · intro es he
            obtain ⟨c, _, rfl⟩ := List.mem_map.1 he
            rfl
          · unfold byteRow at hi
            rw [List.getElem?_map, Option.map_eq_some_iff] at hi
            obtain ⟨c, hc, rfl⟩ := hi
            cases j with
            | zero =>
              simp at hj
              subst hj
              refine ⟨rfl, ?_⟩
              have hci := (List.getElem?_eq_some_iff.1 hc)
              rw [show (0 + i * 1 + 0) = i by omega, show (w.heap.size) = w.drew.heap.size from rfl, World.cell?_alloc_mark]
              unfold bytesRow
              rw [Array.getElem?_append_left (by simpa using hci.1)]
              simp [hc]
            | succ j => simp at hj
        exact ⟨_, _, hK, after_callB hs hfr hv o.dst⟩
      · cases h
    · rename_i e hk1 hk
      split at h
      · rename_i hke
        cases hb : Nat.beq (sizeT G e) 1 with
        | false => rw [hb] at h; cases h
        | true =>
          rw [hb] at h
          simp only [cond_true, Option.map_eq_some_iff] at h
          obtain ⟨⟨xs, p⟩, hrow, rfl⟩ := h
          obtain ⟨hp, ⟨l, hl, hK⟩⟩ := hw
          simp only at hl hp
          have hrd := rowOf_sound hs hrow hp hx
          obtain ⟨ad, cap, hy, hn, hes, hc⟩ := hrd
          subst hl
          have hbl : (byteRow l).length = l.length := by simp [byteRow]
          refine fin_pure hs o (v := .str l) (val := .string ⟨⟨l⟩⟩) ?_ (RA_val_mk _ rfl) hK
          rw [hbl] at hy
          have hfl : (byteRow l).flatten = l.map fun c => Value.int .u8 c.toNat := by
            exact byteRow_flat l
          cases ad with
          | none =>
            have h0 := hn rfl
            have hl0 : l = [] := by
              cases l with
              | nil => rfl
              | cons c l => simp [byteRow] at h0
            subst hl0
            have hr := run_convert_bytes_string (P := P) w src dst e none 0 cap (ht.slice hk1) (ht.int hke) (ht.str hk)
            have hy' : a.eval x = .slice none 0 cap := hy
            have hr2 : (Conv.bytesToString (.slice none 0 cap)).run P w = .ok (.string ⟨⟨[]⟩⟩) w := by
              simp [Conv.bytesToString]
              rfl
            rw [hr2] at hr
            simp [execOp, hop, hy', hr]
          | some d =>
            have := run_convert_bytes_back (P := P) w src dst e d cap l (ht.slice hk1) (ht.int hke) (ht.str hk) (fun j hj => hc d rfl j _ (by rw [hfl]; simp [hj]))
            simp [execOp, hop, hy, this]
      · cases h
    · cases h
  | load t x =>
    rw [hop] at h
    simp only [evReq] at h
    have hx := hs.ev x
    split at h
    · rename_i r' n i' off he
      split at h
      · rename_i e xs fz hr
        cases h
        obtain ⟨hn, ⟨es, h0, hes, hl, hK⟩⟩ := hw
        rw [he] at hx
        cases hm : mkW G t ((es.map fun v => Cell.p (.v v)).drop off) with
        | none => simp [hm] at hK
        | some v =>
          simp only [hm, Option.map_some] at hK
          have hes' : xs[i']? = some es := by simpa using hes
          have hB := hs.bl.blk r'
          rw [hr] at hB
          obtain ⟨b, hb, hy⟩ := vptr_val ht hs hr hn hx (fun e => by subst e; simp at hes')
          have hlen : ∀ es ∈ xs, es.length = (G.T e).size := fun es he => (hB.1 es he).1
          have hmem : es ∈ xs := List.mem_of_getElem? hes'
          have hcell : ∀ j u, (es.drop off)[j]? = some u → w.cell? ⟨b, (i' * (G.T e).size + off) + j, none⟩ = some u := by
            intro j u hj
            rw [List.getElem?_drop] at hj
            have := hB.2.2.2.1.cells hb (i' * (G.T e).size + (off + j)) u (flatten_get xs _ hlen i' es hes' (off + j) u hj)
            rw [addr_add] at this
            rw [Nat.add_assoc]
            simpa using this
          have hA : A2 (RC1 s.bs w E) ((es.map fun v => Cell.p (.v v)).drop off) (es.drop off) := by
            rw [← List.map_drop]
            have hone : ∀ u ∈ es.drop off, u.oneCell' = true := fun u hu => (hB.1 es hmem).2 u (List.mem_of_mem_drop hu)
            revert hone
            generalize es.drop off = L
            intro hone
            induction L with
            | nil => trivial
            | cons u L ih => exact ⟨⟨rfl, hone u (by simp)⟩, ih fun u hu => hone u (by simp [hu])⟩
          obtain ⟨val, hrun, hval⟩ := run_loadVar_cells ht hA hcell hm
          refine fin_pure hs o (v := .w v) (val := val) ?_ hval hK
          simp [execOp, hop, hy, Instr.loadAt, Instr.sureAddr, hrun]
      · cases h
    · rename_i hno
      rw [Option.map_eq_some_iff] at h
      obtain ⟨v, hv, rfl⟩ := h
      exact pure_ (v := .w v) (by rw [hop]; simp [evPure, hv]) hw
  | fieldAddr t x f =>
    rw [hop] at h
    simp only [evReq] at h
    have hx := hs.ev x
    split at h
    · rename_i r' n i' off he
      split at h
      · rename_i e xs fz fs hr hk
        split at h
        · rename_i foff sz ft hf
          cases hz : Nat.beq sz 0 with
          | true => rw [hz] at h; cases h
          | false =>
            rw [hz] at h
            cases h
            obtain ⟨hn, hK⟩ := hw
            rw [he] at hx
            have h1 := hx.1
            simp only [RC, hr] at h1
            obtain ⟨b, k, q1, q2, q3⟩ := h1.2 hn
            refine fin_pure hs o (v := .one (.vptr r' n i' (off + foff))) (val := .pointer (some ⟨b, i' * k + (off + foff), none⟩)) ?_ ⟨?_, rfl⟩ hK
            · have := fieldAt_run (P := P) (G := G) (w := w) ht hk hf hz b (i' * k + off)
              simp [execOp, hop, q3, this, Nat.add_assoc]
            · simp only [RC, hr]
              exact ⟨h1.1, fun _ => ⟨b, k, q1, q2, rfl⟩⟩
        · cases h
      · cases h
    · split at h
      · rename_i fs hk
        rw [Option.map_eq_some_iff] at h
        obtain ⟨v, hv, rfl⟩ := h
        exact pure_ (v := v) (by rw [hop]; simp only [evPure, hk]; exact hv) hw
      · cases h
  | _ =>
    rw [hop] at h
    simp only [evReq] at h
    rw [Option.map_eq_some_iff] at h
    obtain ⟨v, hv, rfl⟩ := h
    exact pure_ (by rw [hop]; exact hv) hw
end
end Go.Fw
/- Builtin functions, and stores into rows, run well. -/
namespace Go.Fw
open Go Go.RowKit Go.Lib

section
variable {P : Program} {G : Cfg} (ht : TOK P G.T) {X : Ctx2} {s : St} {a : Act} {w : World} {E : Env} {C : CallRel} {J : Inl} {Pp : Value → Prop} {Qc : Exit → Act → World → Prop} {K : Eff → Prop}

theorem map_flat_one {α : Type} (f : α → Value) : ∀ l : List α, (l.map fun c => [f c]).flatten = l.map f
  | [] => rfl
  | x :: l => by rw [List.map_cons, List.flatten_cons, map_flat_one f l]; rfl

/-- Appending a string's bytes onto a row of one's own. -/
theorem append_ownS {t u ty e : TypeId} (hu : P.underlying t = some (.slice e)) (hu' : P.underlying u = some .string) (i : TypeInfo) (hi : P.info? e = some i) (hz : i.zero = some (.int .u8 0)) (his : i.size = 1) (hib : i.bytes = 1)
    {v : Value} {n : Nat} {xs : List Value} (hown : w.ownsRow 0 e 1 v n xs) (l : List UInt8) (h63 : n + l.length ≤ 140737488355328) :
    ∃ v' w', (Builtin.append_ #[t, u] ty #[v, .string ⟨⟨l⟩⟩]).run P w = .ok v' w' ∧ w'.ownsRow 0 e 1 v' (n + l.length) (xs ++ l.map fun c => Value.int .u8 c.toNat) ∧ w.grownBy w' v.ownBlock ∧ (l = [] → v' = v) ∧
      ∀ b, v'.ownBlock = some b → some b = v.ownBlock ∨ w.heap.size ≤ b := by
  have hmax : n + l.length ≤ maxLen := by unfold maxLen; omega
  have hsz : (⟨⟨l⟩⟩ : ByteArray).size = l.length := rfl
  have hcl : strCells ⟨⟨l⟩⟩ = l.map fun c => Value.int .u8 c.toNat := rfl
  rcases hown.2 with ⟨rfl, rfl⟩ | ⟨g, c, cur, rfl, _, hg, hnc, hcm, hcs, htk⟩
  · have hx : xs = [] := List.eq_nil_of_length_eq_zero (by simpa using hown.1)
    subst hx
    obtain ⟨v', w', q1, q2, q3, q4⟩ := run_append_own_string (P := P) w w.heap.size t u ty e i hu hu' hi hz his hib _ 0 [] (World.ownsRow_nil w _ e 1) ⟨⟨l⟩⟩ hmax (by rw [hsz]; omega) (Nat.le_refl _)
    rw [hsz, hcl] at q2
    exact ⟨v', w', q1, ⟨q2.1, q2.2.imp (fun h => h) fun ⟨g, cap, cur, e1, _, rest⟩ => ⟨g, cap, cur, e1, Nat.zero_le _, rest⟩⟩, q3, fun h => q4.2 ⟨rfl, by rw [hsz, h]; rfl⟩, fun b hb => .inr (q2.lt b hb).1⟩
  · obtain ⟨v', w', q1, q2, q3, _⟩ := run_append_own_string (P := P) w 0 t u ty e i hu hu' hi hz his hib _ n xs hown ⟨⟨l⟩⟩ hmax (by rw [hsz]; omega) (Nat.zero_le _)
    rw [hsz, hcl] at q2
    by_cases hroom : n + l.length ≤ c
    · have hr := run_append_room_string (P := P) w t u ty e i hu hu' hi his g n c cur hg ⟨⟨l⟩⟩ hroom (by rw [hsz]; omega)
      rw [hr] at q1
      cases q1
      refine ⟨_, _, hr, q2, q3, fun h => by subst h; rfl, fun b hb => .inl hb.symm⟩
    · have holds : ∀ j u, xs[j]? = some u → w.cell? ((⟨g, 0, none⟩ : Addr).add j) = some u := hown.cells (g := g) rfl
      have hr := run_append_grow_string (P := P) w t u ty e i _ hu hu' hi hz ⟨g, 0, none⟩ n c xs (by rw [his]; exact hown.1) holds ⟨⟨l⟩⟩ (by rw [hsz]; omega) (by rw [hsz]; omega) (growslice_fits (by rw [hsz]; omega) (by rw [hib, hsz]; omega))
      rw [hr] at q1
      cases q1
      exact ⟨_, _, hr, q2, q3, fun h => by subst h; simp at hroom; omega, fun b hb => by cases hb; exact .inr (Nat.le_refl _)⟩

include ht
theorem appendS_sound (hs : Sim G.T X s a w E) (o : Oper) {c : Call} (ho : o.op = .call c) (hc : c.callee = .builtin .append) {x y : Operand} {t u : Nat} (hargs : c.args = #[x, y]) (hts : c.argTypes = #[t, u])
    {e : Nat} (hk : (G.T t).k = .slice e) (hk' : (G.T u).k = .str) {l : List UInt8} (hl : s.ev y = .w (.one (.p (.v (.string ⟨⟨l⟩⟩))))) (hu8 : (G.T e).k = .int .u8) (hz8 : (G.T e).zero = .int .u8 0) (hnp : ∀ c, s.ev x = .w (.one (.p c)) → False) (d1 : sizeT G e = 1) (d2 : (G.T e).bytes = 1)
    {r : Req} (h : appendA G s e (s.ev x) (l.map fun c => [.int .u8 c.toNat]) True = some r) (hw : r.wp K) : o.upon P a (Nxt G X s o.dst K) Qc ((execOp a.eval o).run P w) := by
  have hne : (G.T e).k ≠ .other := by rw [hu8]; simp
  obtain ⟨i, hi, his, hib, hiz⟩ := ht.info2 hne
  have hu := ht.slice hk
  have hu' := ht.str hk'
  have hs1 : i.size = 1 := by rw [his]; exact d1
  have hb1 : i.bytes = 1 := by rw [hib]; exact d2
  have hyv : a.eval y = .string ⟨⟨l⟩⟩ := by have := hs.ev y; rw [hl] at this; exact RA_val this
  have hx := hs.ev x
  have hz0 : i.zero = some (.int .u8 0) := by rw [hiz, hz8]
  have fin : ∀ {v' w'}, (Builtin.append_ #[t, u] o.type #[a.eval x, .string ⟨⟨l⟩⟩]).run P w = .ok v' w' → (execOp a.eval o).run P w = .ok (.value v') w' := by
    intro v' w' h
    simp [execOp, ho, resolve, hc, invoke, builtin, hargs, hts, hyv, h]
  have hes0 : ∀ es ∈ (l.map fun c => [Value.int .u8 (c.toNat : Int)]), es.length = (G.T e).size ∧ ∀ u ∈ es, u.oneCell' = true := by
    intro es he
    obtain ⟨c, _, rfl⟩ := List.mem_map.1 he
    exact ⟨by simp; exact d1.symm, fun u hu => by simp at hu; subst hu; rfl⟩
  have hfl0 : (l.map fun c => [Value.int .u8 (c.toNat : Int)]).flatten = l.map fun c => Value.int .u8 c.toNat := map_flat_one _ l
  have hsz1 : (G.T e).size = 1 := d1
  unfold appendA at h
  split at h
  · rename_i he
    rw [he] at hx
    have hxv : a.eval x = .slice none 0 0 := hx.1
    split at h
    · rename_i hnx
      cases h
      obtain ⟨⟨_, hf⟩, hK⟩ := hw
      have hf2 := hf.2
      rw [List.length_map] at hf2
      obtain ⟨v', w', q1, q2, q3, q4, q5⟩ := append_ownS (P := P) (w := w) (ty := o.type) hu hu' i hi hz0 hs1 hb1 (World.ownsRow_nil w 0 e 1) l (by simpa using hf2)
      rw [← hxv] at q1
      rw [fin q1]
      simp only [Nat.zero_add, List.nil_append] at q2
      have q2' : w'.ownsRow 0 e (G.T e).size v' (l.map fun c => [Value.int .u8 (c.toNat : Int)]).length (l.map fun c => [Value.int .u8 (c.toNat : Int)]).flatten := by
        rw [hfl0, List.length_map, hsz1]; exact q2
      exact ⟨_, _, hK, vec_step hs (e := e) (xs' := l.map fun c => [Value.int .u8 (c.toNat : Int)]) (w' := w') (v' := v') (.inl hnx) (fun xs h => by rw [hnx] at h; cases h) (fun xs h => by rw [hnx] at h; cases h) q3.os q3.tape q3.output q3.size
        (fun k hk _ => q3.block k hk (by simp [Value.ownBlock])) hes0 (by rw [hsz1]; omega) hf.2 q2' (fun b hb => by
          rcases q5 b hb with h | h
          · cases h
          · exact .inr h) o.dst _ (ref_val rfl q2')⟩
    · cases h
  · rename_i xs he
    exact (hnp _ he).elim
  · rename_i r n he
    rw [he] at hx
    split at h
    · rename_i e' xs hrr
      cases hq : Nat.beq e' e with
      | false => rw [hq] at h; cases h
      | true =>
        rw [hq] at h
        cases h
        have := Nat.eq_of_beq_eq_true hq
        subst this
        obtain ⟨⟨_, hn, hf⟩, hK⟩ := hw
        have hf2 := hf.2
        rw [List.length_map] at hf2
        have hB := hs.bl.blk r
        rw [hrr] at hB
        have hv : a.eval x = E.sv r := by
          have h1 := hx.1
          simp only [RC, hrr] at h1
          exact h1.2 hn
        have hown := hB.2.2.2.1
        rw [hsz1, hn] at hown
        obtain ⟨v', w', q1, q2, q3, q4, q5⟩ := append_ownS (P := P) (w := w) (ty := o.type) hu hu' i hi hz0 hs1 hb1 hown l hf2
        rw [← hv] at q1
        rw [fin q1]
        have hlen : (xs ++ (l.map fun c => [Value.int .u8 (c.toNat : Int)])).length = n + (l.map fun c => [Value.int .u8 (c.toNat : Int)]).length := by rw [List.length_append, hn]
        have q2' : w'.ownsRow 0 e' (G.T e').size v' (xs ++ (l.map fun c => [Value.int .u8 (c.toNat : Int)])).length (xs ++ (l.map fun c => [Value.int .u8 (c.toNat : Int)])).flatten := by
          rw [List.flatten_append, hfl0, hlen, List.length_map, hsz1]; exact q2
        have hold : oldRow s E r = (E.sv r).ownBlock := by simp [oldRow, mblk, hrr]
        refine ⟨_, _, hK, vec_step hs (e := e') (xs' := xs ++ (l.map fun c => [Value.int .u8 (c.toNat : Int)])) (w' := w') (v' := v') (.inr ⟨xs, hrr⟩) (fun xs1 h => ?_) (fun xs1 h hl => ?_) q3.os q3.tape q3.output q3.size
          (fun k hk hne => q3.block k hk (by rw [← hold]; exact hne)) (fun es he => ?_) (by rw [hsz1]; omega) (by rw [hlen]; exact hf.2) q2' (fun b' hb => ?_) o.dst _ (ref_val hlen.symm q2')⟩
        · rw [hrr] at h; cases h; simp
        · rw [hrr] at h; cases h
          exact q4 (by simp at hl; exact hl)
        · rcases List.mem_append.1 he with he | he
          · exact hB.1 es he
          · exact hes0 es he
        · rw [hold]; exact q5 b' hb
    · cases h
  · cases h

theorem bi_sound (hs : Sim G.T X s a w E) (o : Oper) {c : Call} (hop : o.op = .call c) {b : Builtin} (hc : c.callee = .builtin b) {r : Req} (h : biReq G s b (c.args.toList.map s.ev) c.argTypes.toList = some r) (hw : r.wp K) :
    o.upon P a (Nxt G X s o.dst K) Qc ((execOp a.eval o).run P w) := by
  have two : ∀ {x y : AV}, c.args.toList.map s.ev = [x, y] → ∃ p q, c.args = #[p, q] ∧ s.ev p = x ∧ s.ev q = y := by
    intro x y h
    match hl : c.args.toList, h with
    | [p, q], h =>
      simp at h
      exact ⟨p, q, by rw [← Array.toArray_toList (xs := c.args), hl], h.1, h.2⟩
  unfold biReq at h
  split at h
  · rename_i x y t u hargs hts
    obtain ⟨p, q, ha, rfl, rfl⟩ := two hargs
    have ht' : c.argTypes = #[t, u] := by rw [← Array.toArray_toList (xs := c.argTypes), hts]
    split at h
    · rename_i e e' hk hk'
      split at h
      · rename_i ys pp hrow
        cases hcond : (Nat.beq e e' && okT G e && !Nat.beq (sizeT G e) 0 && Nat.beq t u) with
        | false => rw [hcond] at h; cases h
        | true =>
          rw [hcond] at h
          simp only [Bool.and_eq_true] at hcond
          obtain ⟨⟨⟨_, c2⟩, c3⟩, c4⟩ := hcond
          have := Nat.eq_of_beq_eq_true c4
          subst this
          have hpos : 0 < sizeT G e := by
            rcases Nat.eq_zero_or_pos (sizeT G e) with h | h
            · rw [h] at c3; cases c3
            · exact h
          exact append_sound ht hs o hop hc ha ht' hk c2 hpos hrow h hw
      · cases h
    · rename_i e hk hk'
      split at h
      · rename_i l hl
        split at h
        · rename_i hu8 hz8
          split at h
          · cases h
          rename_i hnp
          cases hcond : (Nat.beq (sizeT G e) 1 && Nat.beq (G.T e).bytes 1) with
          | false => rw [hcond] at h; cases h
          | true =>
            rw [hcond] at h
            simp only [Bool.and_eq_true] at hcond
            have d1 := Nat.eq_of_beq_eq_true hcond.1
            have d2 := Nat.eq_of_beq_eq_true hcond.2
            exact appendS_sound ht hs o hop hc ha ht' hk hk' hl hu8 hz8 hnp d1 d2 h hw
        · cases h
      · cases h
    · cases h
  · rename_i x y ts hargs
    obtain ⟨p, q, ha, rfl, rfl⟩ := two hargs
    split at h
    · rename_i k i k' j e1 e2
      cases h
      have h1 := hs.ev p
      have h2 := hs.ev q
      rw [e1] at h1
      rw [e2] at h2
      refine fin_pure hs o (val := .int k (if j < i then j else i)) ?_ (RA_val_mk _ rfl) (hw.h _ rfl)
      simp [execOp, hop, resolve, hc, invoke, builtin, ha, RA_val h1, RA_val h2, run_min_int2]
    · cases h
  · rename_i x y ts hargs
    obtain ⟨p, q, ha, rfl, rfl⟩ := two hargs
    split at h
    · rename_i k i k' j e1 e2
      cases h
      have h1 := hs.ev p
      have h2 := hs.ev q
      rw [e1] at h1
      rw [e2] at h2
      refine fin_pure hs o (val := .int k (if j > i then j else i)) ?_ (RA_val_mk _ rfl) (hw.h _ rfl)
      simp [execOp, hop, resolve, hc, invoke, builtin, ha, RA_val h1, RA_val h2, run_max_int2]
    · cases h
  · rename_i x hargs
    obtain ⟨p, ha, rfl⟩ : ∃ p, c.args = #[p] ∧ s.ev p = x := by
      match hl : c.args.toList, hargs with
      | [p], h =>
        simp at h
        exact ⟨p, by rw [← Array.toArray_toList (xs := c.args), hl], h⟩
    split at h
    · rename_i r' n hx
      split at h
      · rename_i e xs hr
        cases h
        obtain ⟨⟨hn, hne⟩, hK⟩ := hw
        have h1 := hs.ev p
        rw [hx] at h1
        have h1 := h1.1
        simp only [RC, hr] at h1
        have hv := h1.2 hn
        have hB := hs.bl.blk r'
        rw [hr] at hB
        obtain ⟨b1, b2, b3, ho, _⟩ := hB
        have hl : xs.length ≠ 0 := fun e => hne (List.eq_nil_of_length_eq_zero e)
        rcases ho.2 with ⟨_, q2⟩ | ⟨g, cap, cur, q1, q2, q3, q4, q5, q6, q7⟩
        · exact absurd q2 hl
        · refine fin_pure hs o (v := .one (.vptr r' n 0 0)) (val := .pointer (some ⟨g, 0, none⟩)) ?_ ⟨?_, rfl⟩ hK
          · have hsd := Lib.run_unsafeSliceData_row (P := P) w c.argTypes o.type ⟨g, 0, none⟩ xs.length cap (by omega)
            simp [execOp, hop, resolve, hc, invoke, builtin, ha, hv, q1, hsd]
          · simp only [RC, hr]
            exact ⟨by omega, fun _ => ⟨g, (G.T e).size, by rw [q1]; rfl, fun es hes => (b1 es hes).1, by simp⟩⟩
      · cases h
    · cases h
  · cases h

theorem vstore_sound (hs : Sim G.T X s a w E) (o : Oper) {t : Nat} {x y : Operand} (ho : o.op = .store t x y) {r n i off e : Nat} (he : s.ev x = .w (.one (.vptr r n i off))) {xs : List (List Value)} (hr : s.bs r = .vec e xs false)
    {vs : List Value} (hv : valsOf (cellsA (s.ev y)) = some vs) (hok : okT G t = true) (hbox : okBox (s.ev y) = true) (hl : vs.length = sizeT G t) (hfit : off + sizeT G t ≤ sizeT G e) (hn : xs.length = n)
    {es : List Value} (hes : xs[i]? = some es) (hK : K ⟨.junk, [(r, .vec e (setNth xs i (setAt es off vs)) false)], s.nx⟩) :
    o.upon P a (Nxt G X s o.dst K) Qc ((execOp a.eval o).run P w) := by
  have hx := hs.ev x
  rw [he] at hx
  have hB := hs.bl.blk r
  rw [hr] at hB
  obtain ⟨b, hb, hxp⟩ := vptr_val ht hs hr hn hx (fun e => by subst e; simp at hes)
  have hA := RA_cells (hs.ev y) hbox
  have hcells := valsOf_sound _ _ _ hA hv
  have hone : ∀ u ∈ vs, u.oneCell' = true := fun u hu => by rw [← hcells] at hu; exact hA.all_right (p := fun v => v.oneCell' = true) (fun _ _ h => h.2) u hu
  have hlen : ∀ es ∈ xs, es.length = sizeT G e := fun es he => (hB.1 es he).1
  have hmem : es ∈ xs := List.mem_of_getElem? hes
  have hil : i < xs.length := (List.getElem?_eq_some_iff.1 hes).1
  rcases hB.2.2.2.1.2 with ⟨hnil, _⟩ | ⟨g, cap, cur, hsv, _, hg, hnc, hcm, hcs, htk⟩
  · rw [hnil] at hb; cases hb
  have hbg : b = g := by rw [hsv] at hb; cases hb; rfl
  subst hbg
  have hfl : (setNth xs i (setAt es off vs)).flatten = setAt xs.flatten (i * sizeT G e + off) vs := flatten_set _ _ _ _ _ _ hlen hes (by omega)
  have hxl : xs.flatten.length = xs.length * sizeT G e := flatten_len _ _ hlen
  have hrow : i * sizeT G e + off + vs.length ≤ xs.length * sizeT G e := by
    have : (i + 1) * sizeT G e ≤ xs.length * sizeT G e := Nat.mul_le_mul_right _ hil
    rw [Nat.add_mul] at this
    omega
  have hcur : xs.length * sizeT G e ≤ cur.size := by rw [hcs]; exact Nat.mul_le_mul_right _ hnc
  have hst := run_storeCells_at P b (i * sizeT G e + off) e vs 0 cur w hg (by omega) hone
  simp only [Nat.add_zero] at hst
  rw [← setAt_spec _ _ _ (by simp; omega)] at hst
  have hrun : (execOp a.eval o).run P w = .ok .skip (w.setRow b (setAt cur.toList (i * sizeT G e + off) vs).toArray) := by
    have hsz := ht.sizeOf (okT_ne ht hok) w
    have hne : (a.eval y).cells.size = (G.T t).size := by
      have : (a.eval y).cells.toList.length = (G.T t).size := by rw [hcells]; exact hl
      simpa using this
    have hxp' : a.eval x = .pointer (some ⟨b, i * sizeT G e + off, none⟩) := hxp
    simp [execOp, ho, hxp', Instr.storeAt, Instr.sureAddr, storeVar, hsz, hne, hcells, hst]
  rw [hrun]
  have hlen' : (setNth xs i (setAt es off vs)).length = xs.length := setNth_len _ _ _
  have hes' : ∀ es' ∈ setNth xs i (setAt es off vs), es'.length = (G.T e).size ∧ ∀ u ∈ es', u.oneCell' = true := by
    intro es' he'
    rcases setNth_mem _ _ _ _ he' with rfl | he'
    · refine ⟨by rw [setAt_length]; exact (hB.1 es hmem).1, fun u hu => ?_⟩
      rw [setAt_spec _ _ _ (by rw [hlen es hmem]; omega)] at hu
      rcases List.mem_append.1 hu with hu | hu
      · rcases List.mem_append.1 hu with hu | hu
        · exact (hB.1 es hmem).2 u (List.mem_of_mem_take hu)
        · exact hone u hu
      · exact (hB.1 es hmem).2 u (List.mem_of_mem_drop hu)
    · exact hB.1 es' he'
  have hold : oldRow s E r = some b := by simp [oldRow, mblk, hr, hb]
  have hown : (w.setRow b (setAt cur.toList (i * sizeT G e + off) vs).toArray).ownsRow 0 e (G.T e).size (E.sv r) (setNth xs i (setAt es off vs)).length (setNth xs i (setAt es off vs)).flatten := by
    rw [hlen', hfl]
    refine ⟨by rw [setAt_length]; exact hxl, .inr ⟨b, cap, _, hsv, Nat.zero_le _, setRow_heap w b cur _ e _ hg, hnc, hcm, ?_, ?_⟩⟩
    · rw [← hcs]; simp [setAt_length]
    · have hsplit : cur.toList = xs.flatten ++ cur.toList.drop (xs.length * sizeT G e) := by
        have h1 : cur.toList.take (xs.length * sizeT G e) = xs.flatten := htk
        rw [← h1, List.take_append_drop]
      have h2 : setAt cur.toList (i * sizeT G e + off) vs = setAt xs.flatten (i * sizeT G e + off) vs ++ cur.toList.drop (xs.length * sizeT G e) := by
        rw [← setAt_left _ _ _ _ (by rw [hxl]; exact hrow), ← hsplit]
      show ((setAt cur.toList (i * sizeT G e + off) vs).toArray).toList.take (xs.length * (G.T e).size) = _
      simp only [h2]
      rw [List.take_append_of_le_length (by rw [setAt_length, hxl]; exact Nat.le_refl _), List.take_of_length_le (by rw [setAt_length, hxl]; exact Nat.le_refl _)]
  have hEs : (⟨E.σ, upd E.sv r (E.sv r), E.F⟩ : Env) = E := by
    have : upd E.sv r (E.sv r) = E.sv := by
      funext q
      by_cases h : q = r
      · subst h; rw [upd_same]
      · rw [upd_ne _ _ h]
    rw [this]
  exact ⟨_, _, hK, vec_step hs (e := e) (xs' := setNth xs i (setAt es off vs)) (w' := w.setRow b (setAt cur.toList (i * sizeT G e + off) vs).toArray) (v' := E.sv r) (.inr ⟨xs, hr⟩) (fun xs1 h => by rw [hr] at h; cases h; rw [hlen']; exact Nat.le_refl _) (fun _ _ _ => rfl)
    rfl rfl rfl (by rw [size_setRow]; exact Nat.le_refl _) (fun k _ hne => setRow_other w b k _ fun e => hne (by rw [hold, e])) hes' hB.2.1 (by rw [hlen']; exact hB.2.2.1) hown (fun b' hb' => .inl (by rw [hold, ← hb', hb])) o.dst _ (RA_junk _ _)⟩
end
end Go.Fw
/- Behind a call that was handed rows of one's own. -/
namespace Go.Fw
open Go Go.RowKit

theorem memB_iff {n : Nat} : ∀ {l : List Nat}, memB n l = true ↔ n ∈ l
  | [] => by simp [memB]
  | m :: l => by
    simp only [memB, Bool.or_eq_true, List.mem_cons, memB_iff (l := l)]
    constructor
    · rintro (h | h)
      · exact .inl (Nat.eq_of_beq_eq_true h)
      · exact .inr h
    · rintro (h | h)
      · exact .inl (by subst h; exact Nat.beq_refl n)
      · exact .inr h
theorem distinct_inj : ∀ {l : List Nat}, distinctB l = true → ∀ (i j r : Nat), l[i]? = some r → l[j]? = some r → i = j
  | [], _, i, j, r, h, _ => by simp at h
  | n :: l, hd, i, j, r, h1, h2 => by
    simp only [distinctB, Bool.and_eq_true, Bool.not_eq_true'] at hd
    have nm : ∀ k, l[k]? = some n → False := fun k hk => by
      have := memB_iff.2 (List.mem_of_getElem? hk)
      rw [hd.1] at this; cases this
    cases i with
    | zero =>
      cases j with
      | zero => rfl
      | succ j => simp at h1 h2; subst h1; exact (nm j h2).elim
    | succ i =>
      cases j with
      | zero => simp at h1 h2; subst h2; exact (nm i h1).elim
      | succ j => simp at h1 h2; rw [distinct_inj hd.2 i j r h1 h2]
theorem updL_append {α : Type} : ∀ (l m : List (Nat × α)) (f : Nat → α), updL f (l ++ m) = updL (updL f l) m
  | [], _, _ => rfl
  | (r, b) :: l, m, f => by simp only [List.cons_append, updL]; exact updL_append l m _
theorem updL_inj {α : Type} (g : Nat → Nat) (b : Nat → α) : ∀ (l : List Nat) (f : Nat → α), (∀ i ∈ l, ∀ j ∈ l, g i = g j → i = j) →
    (∀ q, (∀ j ∈ l, g j ≠ q) → updL f (l.map fun j => (g j, b j)) q = f q) ∧ ∀ j ∈ l, updL f (l.map fun j => (g j, b j)) (g j) = b j
  | [], f, _ => ⟨fun _ _ => rfl, fun j hj => by simp at hj⟩
  | i :: l, f, h => by
    have ih := updL_inj g b l (upd f (g i) (b i)) fun i hi j hj => h i (by simp [hi]) j (by simp [hj])
    refine ⟨fun q hq => ?_, fun j hj => ?_⟩
    · rw [List.map_cons, updL, ih.1 q fun j hj => hq j (by simp [hj])]
      exact upd_ne _ _ (fun e => hq i (by simp) e.symm)
    · rw [List.map_cons, updL]
      by_cases hm : j ∈ l
      · exact ih.2 j hm
      · have hji : j = i := by rcases List.mem_cons.1 hj with h | h; exact h; exact absurd h hm
        subst hji
        rw [ih.1 (g j) fun k hk e => hm (by rw [← h k (by simp [hk]) j (by simp) e]; exact hk)]
        exact upd_same _ _ _

section
variable {G : Cfg} {X : Ctx2} {s : St} {a : Act} {w : World} {E : Env}

open Classical in
/-- The values of the rows behind the call. -/
noncomputable def svO (os : List Nat) (nx n : Nat) (E E' : Env) : Nat → Value := fun q => if h : ∃ j, j < n ∧ mapR os nx j = q then E'.sv h.choose else E.sv q

theorem after_callO (hs : Sim G.T X s a w E) {os : List Nat} (hvec : ∀ r ∈ os, ∃ e xs, s.bs r = .vec e xs false) (hlo : ∀ r ∈ os, s.lo ≤ r) (hd : distinctB os = true)
    {E0 : Env} (h0 : ∀ (j : Nat) r, os[j]? = some r → E0.sv j = E.sv r) (hF0 : E0.F = E.F)
    {bs' : List Blk} (hk : os.length ≤ bs'.length) (hfree : ∀ j, os.length ≤ j → j < bs'.length → s.bs (s.nx + (j - os.length)) = .none) (hblk : bs'.all blkV = true)
    {w' : World} {E' : Env} (hfr : Frame ⟨w, E0.F, fun b => ∃ r, mblk (bsF (os.map s.bs)) E0 r = some b⟩ w' E'.F)
    {r : AV} {v : Value} (hv : RA (bsF bs') w' E' r v) (hr : resA r = true) (hB : Blocks G.T (bsF bs') w' E') (hext : BExt (bsF (os.map s.bs)) E0 (bsF bs') E')
    (hnew : ∀ r b, mblk (bsF bs') E' r = some b → (∃ q, mblk (bsF (os.map s.bs)) E0 q = some b) ∨ w.heap.size ≤ b) (dst : Option Nat) :
    ∃ E2, Sim G.T X (s.app dst ⟨mapA os s.nx r, (List.range bs'.length).map (fun j => (mapR os s.nx j, bs'.getD j .none)), s.nx + (bs'.length - os.length)⟩) (a.put dst v) w' E2 := by
  -- the map of numbers
  have mR : ∀ j, j < bs'.length → (∃ r, os[j]? = some r ∧ mapR os s.nx j = r) ∨ (os.length ≤ j ∧ mapR os s.nx j = s.nx + (j - os.length) ∧ s.bs (mapR os s.nx j) = .none) := by
    intro j hj
    unfold mapR
    cases h : os[j]? with
    | some r => exact .inl ⟨r, rfl, rfl⟩
    | none =>
      have : os.length ≤ j := List.getElem?_eq_none_iff.1 h
      exact .inr ⟨this, rfl, hfree j this hj⟩
  have inj : ∀ i, i < bs'.length → ∀ j, j < bs'.length → mapR os s.nx i = mapR os s.nx j → i = j := by
    intro i hi j hj e
    rcases mR i hi with ⟨r1, h1, e1⟩ | ⟨h1, e1, n1⟩ <;> rcases mR j hj with ⟨r2, h2, e2⟩ | ⟨h2, e2, n2⟩
    · rw [e1, e2] at e; subst e; exact distinct_inj hd i j r1 h1 h2
    · obtain ⟨ee, xs, hx⟩ := hvec r1 (List.mem_of_getElem? h1)
      rw [← e, e1, hx] at n2; cases n2
    · obtain ⟨ee, xs, hx⟩ := hvec r2 (List.mem_of_getElem? h2)
      rw [e, e2, hx] at n1; cases n1
    · rw [e1, e2] at e; omega
  have hU := updL_inj (mapR os s.nx) (fun j => bs'.getD j .none) (List.range bs'.length) s.bs (fun i hi j hj => inj i (List.mem_range.1 hi) j (List.mem_range.1 hj))
  have bNew : ∀ j, j < bs'.length → updL s.bs ((List.range bs'.length).map (fun j => (mapR os s.nx j, bs'.getD j .none))) (mapR os s.nx j) = bsF bs' j := fun j hj => hU.2 j (List.mem_range.2 hj)
  have bOld : ∀ q, (∀ j, j < bs'.length → mapR os s.nx j ≠ q) → updL s.bs ((List.range bs'.length).map (fun j => (mapR os s.nx j, bs'.getD j .none))) q = s.bs q := fun q hq => hU.1 q fun j hj => hq j (List.mem_range.1 hj)
  let E2 : Env := ⟨E.σ, svO os s.nx bs'.length E E', E'.F⟩
  have svNew : ∀ j, j < bs'.length → E2.sv (mapR os s.nx j) = E'.sv j := by
    intro j hj
    have hex : ∃ i, i < bs'.length ∧ mapR os s.nx i = mapR os s.nx j := ⟨j, hj, rfl⟩
    show svO os s.nx bs'.length E E' (mapR os s.nx j) = _
    unfold svO
    rw [dif_pos hex]
    rw [inj _ hex.choose_spec.1 j hj hex.choose_spec.2]
  have svOld : ∀ q, (∀ j, j < bs'.length → mapR os s.nx j ≠ q) → E2.sv q = E.sv q := by
    intro q hq
    show svO os s.nx bs'.length E E' q = _
    unfold svO
    rw [dif_neg]
    rintro ⟨j, hj, e⟩
    exact hq j hj e
  generalize hbs : updL s.bs ((List.range bs'.length).map (fun j => (mapR os s.nx j, bs'.getD j .none))) = bsN at bNew bOld
  have hcase : ∀ q, (∃ j, j < bs'.length ∧ mapR os s.nx j = q) ∨ ∀ j, j < bs'.length → mapR os s.nx j ≠ q := by
    intro q
    by_cases h : ∃ j, j < bs'.length ∧ mapR os s.nx j = q
    · exact .inl h
    · exact .inr fun j hj e => h ⟨j, hj, e⟩
  -- the rows that were handed on
  have b0 : ∀ (j : Nat) r, os[j]? = some r → bsF (os.map s.bs) j = s.bs r := by
    intro j r h
    unfold bsF
    rw [List.getD_eq_getElem?_getD, List.getElem?_map, h]; rfl
  have m0 : ∀ j b, mblk (bsF (os.map s.bs)) E0 j = some b → ∃ r, os[j]? = some r ∧ mblk s.bs E r = some b := by
    intro j b h
    cases hj : os[j]? with
    | none =>
      have : bsF (os.map s.bs) j = .none := by unfold bsF; rw [List.getD_eq_getElem?_getD, List.getElem?_map, hj]; rfl
      unfold mblk at h; rw [this] at h; cases h
    | some r =>
      refine ⟨r, rfl, ?_⟩
      obtain ⟨e, xs, hx⟩ := hvec r (List.mem_of_getElem? hj)
      unfold mblk at h ⊢
      rw [b0 j r hj, hx] at h
      rw [hx]
      simp only at h ⊢
      rw [h0 j r hj] at h; exact h
  have hkeep : ∀ q b, mblk s.bs E q = some b → q ∉ os → w'.heap[b]? = w.heap[b]? := by
    intro q b hq hn
    refine hfr.keep b (hs.bl.mt q b hq).2 ?_
    rintro ⟨j, hj⟩
    obtain ⟨r, h1, h2⟩ := m0 j b hj
    have := hs.bl.inj q r b hq h2
    exact hn (this ▸ List.mem_of_getElem? h1)
  have hFl : ∀ b, E.F b → b < w.heap.size := fun b hb => (hs.fr.flt b hb).1
  have hkF : ∀ b, E.F b → w'.heap[b]? = w.heap[b]? := by
    intro b hb
    refine hfr.keep b (hFl b hb) ?_
    rintro ⟨j, hj⟩
    obtain ⟨r, _, h2⟩ := m0 j b hj
    exact (hs.bl.mt r b h2).1 hb
  have hFF : ∀ b, E.F b → E2.F b := fun b hb => hfr.fge b (by show E0.F b; rw [hF0]; exact hb)
  have hf : FExt w E.F w' E2.F := ⟨hFF, hkF⟩
  have notos : ∀ q, (∀ j, j < bs'.length → mapR os s.nx j ≠ q) → q ∉ os := by
    intro q hq hm
    obtain ⟨j, hj⟩ := List.mem_iff_getElem?.1 hm
    have hjl : j < bs'.length := Nat.lt_of_lt_of_le (List.getElem?_eq_some_iff.1 hj).1 hk
    refine hq j hjl ?_
    unfold mapR; rw [hj]
  have hb : BExt s.bs E bsN E2 := by
    intro q hq
    rcases hcase q with ⟨j, hj, rfl⟩ | hn
    · rw [bNew j hj]
      rcases mR j hj with ⟨r1, h1, e1⟩ | ⟨_, _, n1⟩
      · have hx := hext j (by rw [b0 j r1 h1]; rw [e1] at hq; exact hq)
        have hbv : blkV (bsF bs' j) = true := by
          have hgj : bsF bs' j = bs'[j] := by unfold bsF; simp [hj]
          rw [hgj]; exact List.all_eq_true.1 hblk _ (List.getElem_mem hj)
        cases hbj : bsF bs' j with
        | dead => trivial
        | vec e' xs' fz' =>
          rw [hbj] at hx
          obtain ⟨e, xs, fz, q1, q2, q3⟩ := hx
          rw [b0 j r1 h1] at q1
          rw [e1]
          refine ⟨e, xs, fz, q1, q2, fun hl => ?_⟩
          obtain ⟨g1, g2⟩ := q3 hl
          refine ⟨?_, g2⟩
          rw [← e1, svNew j hj, g1, h0 j r1 h1, e1]
        | _ => rw [hbj] at hbv; cases hbv
      · exact (hq n1).elim
    · exact BExtAt.same (E' := E2) (bOld q hn) rfl (svOld q hn) hq
  -- what it gives
  have inB : ∀ j, bsF bs' j ≠ .none → j < bs'.length := by
    intro j h
    rcases Nat.lt_or_ge j bs'.length with h' | h'
    · exact h'
    · exact absurd (by unfold bsF; rw [List.getD_eq_getElem?_getD, List.getElem?_eq_none h']; rfl) h
  have rc : ∀ {c : Cell} {y : Value}, resC c = true → RC (bsF bs') w' E' c y → RC bsN w' E2 (mapC os s.nx c) y := by
    intro c y hc h
    cases c with
    | p x => exact h
    | nils => exact h
    | junk => trivial
    | ref q n =>
      have hne : bsF bs' q ≠ .none := fun e => by simp [RC, e] at h
      have hq := inB q hne
      have hbv : blkV (bsF bs' q) = true := by
        have hgj : bsF bs' q = bs'[q] := by unfold bsF; simp [hq]
        rw [hgj]; exact List.all_eq_true.1 hblk _ (List.getElem_mem hq)
      simp only [mapC, RC] at h ⊢
      rw [bNew q hq, svNew q hq]
      cases hbq : bsF bs' q with
      | vec e xs fz => rw [hbq] at h; exact h
      | dead => trivial
      | _ => rw [hbq] at hbv; cases hbv
    | _ => cases hc
  have rc1 : ∀ {c : Cell} {y : Value}, resC c = true → RC1 (bsF bs') w' E' c y → RC1 bsN w' E2 (mapC os s.nx c) y := fun hc h => ⟨rc hc h.1, h.2⟩
  have rcs : ∀ {cs : List Cell} {us : List Value}, cs.all resC = true → A2 (RC1 (bsF bs') w' E') cs us → A2 (RC1 bsN w' E2) (cs.map (mapC os s.nx)) us := by
    intro cs
    induction cs with
    | nil => intro us _ h; cases us <;> exact h
    | cons c cs ih =>
      intro us hc h
      cases us with
      | nil => exact h.elim
      | cons u us =>
        simp only [List.all_cons, Bool.and_eq_true] at hc
        exact ⟨rc1 hc.1 h.1, ih hc.2 h.2⟩
  have rw_ : ∀ {x : W1} {y : Value}, resW x = true → RW (bsF bs') w' E' x y → RW bsN w' E2 (mapW os s.nx x) y := by
    intro x y hx h
    cases x with
    | one c =>
      refine ⟨rc hx h.1, ?_⟩
      have h2 := h.2
      cases c <;> first | exact h2 | cases hx
    | agg cs =>
      obtain ⟨ar, e, hA⟩ := h
      exact ⟨ar, e, rcs hx hA⟩
  have hval : RA bsN w' E2 (mapA os s.nx r) v := by
    cases r with
    | w x => exact rw_ hr hv
    | tup l =>
      obtain ⟨ar, e, hA⟩ := hv
      refine ⟨ar, e, ?_⟩
      revert hA
      generalize ar.toList = us
      have hr' : l.all resW = true := hr
      clear hr e
      intro hA
      induction l generalizing us with
      | nil => cases us <;> exact hA
      | cons x l ih =>
        cases us with
        | nil => exact hA.elim
        | cons u us =>
          simp only [List.all_cons, Bool.and_eq_true] at hr'
          exact ⟨rw_ hr'.1 hA.1, ih us hr'.2 hA.2⟩
  have hmb : ∀ q b, mblk bsN E2 q = some b → (∃ j, j < bs'.length ∧ mapR os s.nx j = q ∧ mblk (bsF bs') E' j = some b) ∨ ((∀ j, j < bs'.length → mapR os s.nx j ≠ q) ∧ mblk s.bs E q = some b) := by
    intro q b h
    rcases hcase q with ⟨j, hj, rfl⟩ | hn
    · refine .inl ⟨j, hj, rfl, ?_⟩
      have hbv : blkV (bsF bs' j) = true := by
        have hgj : bsF bs' j = bs'[j] := by unfold bsF; simp [hj]
        rw [hgj]; exact List.all_eq_true.1 hblk _ (List.getElem_mem hj)
      unfold mblk at h ⊢
      rw [bNew j hj] at h
      cases hbj : bsF bs' j with
      | dead => rw [hbj] at h; cases h
      | vec e' xs' fz' =>
        rw [hbj] at h
        cases fz' with
        | true => cases h
        | false => simp only at h ⊢; rw [svNew j hj] at h; exact h
      | _ => rw [hbj] at hbv; cases hbv
    · refine .inr ⟨hn, ?_⟩
      unfold mblk at h ⊢
      rw [bOld q hn] at h
      cases hq : s.bs q with
      | vec e xs fz =>
        rw [hq] at h
        cases fz with
        | true => cases h
        | false => simp only at h ⊢; rw [svOld q hn] at h; exact h
      | buf e n ys => rw [hq] at h; simp only at h ⊢; rw [svOld q hn] at h; exact h
      | _ => rw [hq] at h; exact h
  have hcross : ∀ j q b, mblk (bsF bs') E' j = some b → q ∉ os → mblk s.bs E q = some b → False := by
    intro j q b hj hq h
    rcases hnew j b hj with ⟨i, hi⟩ | hge
    · obtain ⟨r1, g1, g2⟩ := m0 i b hi
      have := hs.bl.inj q r1 b h g2
      exact hq (this ▸ List.mem_of_getElem? g1)
    · have := (hs.bl.mt q b h).2; omega
  refine ⟨E2, hs.step dst (bl := (List.range bs'.length).map (fun j => (mapR os s.nx j, bs'.getD j .none))) (E' := E2) hf (by rw [hbs]; exact hb) (by rw [hbs]; exact hval) ?_ ?_ ?_⟩
  · rw [hbs]
    refine ⟨fun q => ?_, fun q q' b h h' => ?_, fun q b h => ?_⟩
    · rcases hcase q with ⟨j, hj, rfl⟩ | hn
      · rw [bNew j hj]
        have hq := hB.blk j
        have hbv : blkV (bsF bs' j) = true := by
          have hgj : bsF bs' j = bs'[j] := by unfold bsF; simp [hj]
          rw [hgj]; exact List.all_eq_true.1 hblk _ (List.getElem_mem hj)
        cases hbj : bsF bs' j with
        | dead => trivial
        | vec e' xs' fz' =>
          rw [hbj] at hq
          unfold RB at hq ⊢
          rw [svNew j hj]
          exact hq
        | _ => rw [hbj] at hbv; cases hbv
      · rw [bOld q hn]
        have hq := hs.bl.blk q
        have hqo := notos q hn
        refine hq.keep (E' := E2) hf hb rfl (svOld q hn) fun g hg => ?_
        by_cases hM : mblk s.bs E q = some g
        · exact hkeep q g hM hqo
        · refine hkF g ?_
          cases h : s.bs q with
          | imm cs => rw [h] at hq hg; cases hg; exact hq.1
          | vec e xs fz =>
            rw [h] at hq hg
            cases fz with
            | true => exact hq.2.2.2.2 rfl g hg
            | false => exact absurd (by simp only [mblk, h]; exact hg) hM
          | buf e n ys => rw [h] at hg; exact absurd (by simp only [mblk, h]; exact hg) hM
          | vars cs => rw [h] at hg; exact absurd (by simp only [mblk, h]; exact hg) hM
          | mapb kk es => rw [h] at hg; exact absurd (by simp only [mblk, h]; exact hg) hM
          | mapi kk b m st => rw [h] at hg; exact absurd (by simp only [mblk, h]; exact hg) hM
          | iter l p => rw [h] at hg; exact absurd (by simp only [mblk, h]; exact hg) hM
          | lock D => rw [h] at hg; exact absurd (by simp only [mblk, h]; exact hg) hM
          | tvars t cs => rw [h] at hg; exact absurd (by simp only [mblk, h]; exact hg) hM
          | chan c b cl => rw [h] at hg; exact absurd (by simp only [mblk, h]; exact hg) hM
          | none => rw [h] at hg; cases hg
          | dead => rw [h] at hg; cases hg
    · rcases hmb q b h with ⟨j, hj, rfl, h1⟩ | ⟨hn, h1⟩ <;> rcases hmb q' b h' with ⟨j', hj', rfl, h2⟩ | ⟨hn', h2⟩
      · rw [hB.inj j j' b h1 h2]
      · exact (hcross j q' b h1 (notos q' hn') h2).elim
      · exact (hcross j' q b h2 (notos q hn) h1).elim
      · exact hs.bl.inj q q' b h1 h2
    · rcases hmb q b h with ⟨j, hj, rfl, h1⟩ | ⟨hn, h1⟩
      · exact hB.mt j b h1
      · refine ⟨fun hF => ?_, Nat.lt_of_lt_of_le (hs.bl.mt q b h1).2 hfr.grow⟩
        have hlt := (hs.bl.mt q b h1).2
        rcases (hfr.flt b hF).2 with h2 | h2
        · exact (hs.bl.mt q b h1).1 (hF0 ▸ h2)
        · simp only at h2; omega
  · rw [hbs]
    intro q b h
    rcases hmb q b h with ⟨j, hj, rfl, h1⟩ | ⟨hn, h1⟩
    · rcases hnew j b h1 with ⟨i, hi⟩ | hge
      · obtain ⟨r1, g1, g2⟩ := m0 i b hi
        rcases hs.own r1 b g2 with ⟨q1, _⟩ | q1
        · have := hlo r1 (List.mem_of_getElem? g1); omega
        · exact .inr q1
      · exact .inr (Nat.le_trans hs.fr.grow hge)
    · exact hs.own q b h1
  · refine Frame.trans hs.fr hfr ?_ (fun b h => (hs.fr.flt b (hF0 ▸ h)).2) (fun b h => hFF b (hs.fr.fge b h))
    rintro b ⟨j, hj⟩
    obtain ⟨r1, g1, g2⟩ := m0 j b hj
    exact hs.own r1 b g2 |>.imp (fun h => hs.mo _ _ h.2) (fun h => h)
end
end Go.Fw
/- A call that is handed rows of one's own runs well. -/
namespace Go.Fw
open Go Go.RowKit

section
variable {P : Program} {G : Cfg} {X : Ctx2} {s : St} {a : Act} {w : World} {E : Env} {C : CallRel} {J : Inl} {Pp : Value → Prop} {Qc : Exit → Act → World → Prop} {K : Eff → Prop}

theorem argsO_sound {T : Nat → TI} (hb : Blocks T s.bs w E) : ∀ {l : List AV} {ys : List Value}, A2 (RA s.bs w E) l ys → ∀ {j0 : Nat} {K : List AV → List Nat → List Nat → Prop}, argsO s l j0 K →
    ∃ ar fs os, K ar fs os ∧ (∀ r ∈ fs, ∃ e xs fz, s.bs r = .vec e xs fz) ∧
      ∀ (bsx : Nat → Blk) (Ex : Env), (∀ b, E.F b → Ex.F b) → (∀ r ∈ fs, ∀ b, (E.sv r).ownBlock = some b → Ex.F b) → (∀ (i r : Nat), os[i]? = some r → bsx (j0 + i) = s.bs r ∧ Ex.sv (j0 + i) = E.sv r ∧ Ex.σ (j0 + i) = E.σ r) →
        A2 (RA bsx w Ex) ar ys
  | [], [], _, j0, K, h => ⟨[], [], [], h, by simp, fun _ _ _ _ _ => trivial⟩
  | c :: cs, u :: us, hA, j0, K, h => by
    unfold argsO at h
    split at h
    · rename_i r n
      obtain ⟨ar, fs, os, hK, hfs, hq⟩ := argsO_sound hb hA.2 h
      refine ⟨_, _, _, hK, hfs, fun bsx Ex h1 h2 h3 => ⟨?_, hq bsx Ex h1 h2 fun i r' hi => ?_⟩⟩
      · obtain ⟨e1, e2, e3⟩ := h3 0 r rfl
        simp only [Nat.add_zero] at e1 e2 e3
        have hc := hA.1
        refine ⟨?_, hc.2⟩
        have hc1 := hc.1
        simp only [RC] at hc1 ⊢
        rw [e1, e2]
        exact hc1
      · have := h3 (i + 1) r' (by simpa using hi)
        rwa [Nat.add_assoc, Nat.add_comm 1 i]
    · obtain ⟨c', r, hK, hr, hq⟩ := argAK_sound hb hA.1 h
      obtain ⟨ar, fs, os, hK', hfs, hq'⟩ := argsO_sound hb hA.2 hK
      refine ⟨_, _, _, hK', fun q hq0 => ?_, fun bsx Ex h1 h2 h3 => ⟨?_, hq' bsx Ex h1 (fun q hq0 => h2 q (by simp [hq0])) h3⟩⟩
      · rcases List.mem_append.1 hq0 with hq0 | hq0
        · exact hr q hq0
        · exact hfs q hq0
      · exact RA.ext (E := ⟨E.σ, E.sv, Ex.F⟩) (E' := Ex) (FExt.refl _ _) (BExt.ofNone _ _ _) (hq Ex.F h1 fun q hq0 => h2 q (by simp [hq0]))

theorem sim_app_two {dst : Option Nat} {r : AV} {b1 b2 : List (Nat × Blk)} {nx : Nat} {a' : Act} {w' : World} {E' : Env}
    (h : Sim G.T X ({ s with bs := updL s.bs b1 }.app dst ⟨r, b2, nx⟩) a' w' E') : Sim G.T X (s.app dst ⟨r, b1 ++ b2, nx⟩) a' w' E' := by
  have e : ({ s with bs := updL s.bs b1 } : St).app dst ⟨r, b2, nx⟩ = s.app dst ⟨r, b1 ++ b2, nx⟩ := by
    simp only [St.app, updL_append]
    cases dst <;> rfl
  rw [← e]; exact h

theorem callO_sound {dr : Bool} (hC : ∀ f ar bs out bs', C f ar bs out bs' → Sound P G.T f ar bs out bs') (hs : Sim G.T X s a w E) (hQ : PanQ X Pp Qc) (o : Oper)
    {f : FuncId} {pre caps : List Cap} {p q : List Value} (hp : A2 (RCap w E.F) pre p) (hq : A2 (RCap w E.F) caps q) {l : List AV} {ys : List Value} (hl : A2 (RA s.bs w E) l ys)
    (hcapS : ∀ {F : Nat → Prop} {bs : Nat → Blk} {E : Env}, E.F = F → ∀ {l : List Cap} {us : List Value}, A2 (RCap w F) l us → A2 (RA bs w E) (l.map capAV) us)
    (hrun : ∀ fn c, P.funcs[f]? = some fn → fn.body = some c → (fn.name == "runtime.NumGoroutine") = false → (execOp a.eval o).run P w = .ok (.enter f (p ++ ys ++ q).toArray) w)
    (h : argsO s l 0 fun ar fs os => bsel (ownOK s fs os) (wpCallO C f (pre.map capAV ++ ar ++ caps.map capAV) (os.map s.bs)
          (fun r bs' => bsel (ownRes dr s os.length r bs') (K (ownEff s fs os r bs')) False) Pp) False) :
    o.upon P a (Nxt G X s o.dst K) Qc ((execOp a.eval o).run P w) := by
  obtain ⟨ar, fs, os, hcall, hfs, hargs⟩ := argsO_sound hs.bl hl h
  cases hok : ownOK s fs os with
  | false => rw [hok] at hcall; exact hcall.elim
  | true =>
    rw [hok] at hcall
    obtain ⟨out, bs', hc, hout⟩ := hcall.h
    simp only [ownOK, Bool.and_eq_true] at hok
    obtain ⟨⟨hos, hd⟩, hflo⟩ := hok
    have hos' : ∀ r ∈ os, (∃ e xs, s.bs r = .vec e xs false) ∧ s.lo ≤ r ∧ r ∉ fs := by
      intro r hr
      have := List.all_eq_true.1 hos r hr
      simp only [Bool.and_eq_true, Bool.not_eq_true'] at this
      obtain ⟨⟨h1, h2⟩, h3⟩ := this
      refine ⟨?_, Nat.le_of_ble_eq_true h2, fun hm => by rw [memB_iff.2 hm] at h3; cases h3⟩
      unfold ownVec at h1
      split at h1
      · rename_i e xs hx; exact ⟨e, xs, hx⟩
      · cases h1
    obtain ⟨⟨fn, cc, h1, h2, h3⟩, hsound⟩ := hC _ _ _ _ _ hc
    rw [hrun fn cc h1 h2 h3]
    have hs1 := hs.fix (rs := fs) (fun r hr => .inl (hfs r hr)) hflo
    have hbs1 : ∀ q, updL s.bs (fs.map fun r => (r, fixB s r)) q = if q ∈ fs then fixB s q else s.bs q := updL_map s.bs (fixB s) fs
    have hb1 : ∀ r ∈ os, updL s.bs (fs.map fun r => (r, fixB s r)) r = s.bs r := fun r hr => by rw [hbs1, if_neg (hos' r hr).2.2]
    have hmap : os.map s.bs = os.map (updL s.bs (fs.map fun r => (r, fixB s r))) := (List.map_congr_left fun r hr => (hb1 r hr)).symm
    let F1 : Nat → Prop := fun b => E.F b ∨ ∃ r ∈ fs, blkOf s.bs E r = some b
    let E0 : Env := ⟨fun j => E.σ (os.getD j 0), fun j => E.sv (os.getD j 0), F1⟩
    have e0 : ∀ (j : Nat) r, os[j]? = some r → E0.sv j = E.sv r := by
      intro j r hj
      show E.sv (os.getD j 0) = _
      rw [List.getD_eq_getElem?_getD, hj]; rfl
    have b0 : ∀ (j : Nat) r, os[j]? = some r → bsF (os.map s.bs) j = s.bs r := by
      intro j r h
      unfold bsF
      rw [List.getD_eq_getElem?_getD, List.getElem?_map, h]; rfl
    have bn : ∀ (j : Nat), os[j]? = none → bsF (os.map s.bs) j = .none := by
      intro j h
      unfold bsF
      rw [List.getD_eq_getElem?_getD, List.getElem?_map, h]; rfl
    have hA : A2 (RA (bsF (os.map s.bs)) w E0) (pre.map capAV ++ ar ++ caps.map capAV) (p ++ ys ++ q) := by
      refine A2.append (A2.append ?_ (hargs _ E0 (fun b hb => .inl hb) (fun r hr b hb => .inr ⟨r, hr, ?_⟩) (fun i r hi => ⟨by rw [Nat.zero_add]; exact b0 i r hi, by rw [Nat.zero_add]; exact e0 i r hi, by rw [Nat.zero_add]; show E.σ (os.getD i 0) = _; rw [List.getD_eq_getElem?_getD, hi]; rfl⟩))) ?_
      · exact hcapS (F := F1) rfl (hp.mono fun _ _ h => h.ext ⟨fun b hb => .inl hb, fun _ _ => rfl⟩)
      · obtain ⟨e, xs, fz, hx⟩ := hfs r hr
        simp [blkOf, hx, hb]
      · exact hcapS (F := F1) rfl (hq.mono fun _ _ h => h.ext ⟨fun b hb => .inl hb, fun _ _ => rfl⟩)
    have m1 : ∀ j b, mblk (bsF (os.map s.bs)) E0 j = some b → ∃ r, os[j]? = some r ∧ mblk (updL s.bs (fs.map fun r => (r, fixB s r))) ⟨E.σ, E.sv, F1⟩ r = some b := by
      intro j b h
      cases hj : os[j]? with
      | none => unfold mblk at h; rw [bn j hj] at h; cases h
      | some r =>
        refine ⟨r, rfl, ?_⟩
        obtain ⟨e, xs, hx⟩ := (hos' r (List.mem_of_getElem? hj)).1
        unfold mblk at h ⊢
        rw [b0 j r hj, hx] at h
        rw [hb1 r (List.mem_of_getElem? hj), hx]
        simp only at h ⊢
        rw [e0 j r hj] at h; exact h
    have hbl : Blocks G.T (bsF (os.map s.bs)) w E0 := by
      refine ⟨fun j => ?_, fun j j' b h h' => ?_, fun j b h => ?_⟩
      · cases hj : os[j]? with
        | none => rw [bn j hj]; trivial
        | some r =>
          have hB := hs1.bl.blk r
          simp only at hB
          obtain ⟨e, xs, hx⟩ := (hos' r (List.mem_of_getElem? hj)).1
          rw [hb1 r (List.mem_of_getElem? hj), hx] at hB
          rw [b0 j r hj, hx]
          unfold RB at hB ⊢
          rw [e0 j r hj]
          exact hB
      · obtain ⟨r, g1, g2⟩ := m1 j b h
        obtain ⟨r', g3, g4⟩ := m1 j' b h'
        have := hs1.bl.inj r r' b g2 g4
        subst this
        exact distinct_inj hd j j' r g1 g3
      · obtain ⟨r, g1, g2⟩ := m1 j b h
        exact hs1.bl.mt r b g2
    have hlt : ∀ b, E0.F b → b < w.heap.size := fun b hb => (hs1.fr.flt b hb).1
    refine Calls.mono (hsound w E0 (p ++ ys ++ q).toArray hA hbl hlt) ?_
    rintro e w' ⟨E', hfr, hr⟩
    have hMf : ∀ b, (∃ r, mblk (bsF (os.map s.bs)) E0 r = some b) → X.M b ∨ X.w.heap.size ≤ b := by
      rintro b ⟨j, hj⟩
      obtain ⟨r1, g1, g2⟩ := m1 j b hj
      exact (hs1.own r1 b g2).imp (fun h => hs1.mo _ _ h.2) (fun h => h)
    cases out with
    | pan v =>
      subst hr
      simp only at hout
      exact hQ v a w' E'.F hout hs.defers (Frame.trans hs1.fr hfr hMf (fun b h => (hs1.fr.flt b h).2) (fun b h => hfr.fge b (hs1.fr.fge b h)))
    | ret r =>
      obtain ⟨v, rfl, hv, hB, hext, hnew⟩ := hr
      simp only at hout
      cases hres : ownRes dr s os.length r bs' with
      | false => rw [hres] at hout; exact hout.elim
      | true =>
        rw [hres] at hout
        simp only [ownRes, Bool.and_eq_true] at hres
        obtain ⟨⟨⟨⟨⟨r1, r2⟩, r3⟩, r4⟩, r5⟩, r6⟩ := hres
        have r1' := Nat.le_of_ble_eq_true r1
        have r2' := Nat.le_of_ble_eq_true r2
        have fr : ∀ q, freeB s q = true → s.bs q = .none := by
          intro q h
          unfold freeB at h
          split at h
          · assumption
          · cases h
        have hfree : ∀ j, os.length ≤ j → j < bs'.length → updL s.bs (fs.map fun r => (r, fixB s r)) (s.nx + (j - os.length)) = .none := by
          intro j hj1 hj2
          have hz : s.bs (s.nx + (j - os.length)) = .none := by
            have r2'' : bs'.length - os.length ≤ 2 := by cases dr <;> simp only [cond_true, cond_false] at r2' <;> omega
            have : j - os.length = 0 ∨ j - os.length = 1 := by omega
            rcases this with h | h <;> rw [h]
            · exact fr _ r3
            · refine fr _ ?_
              cases dr with
              | false => exact r4
              | true => exfalso; simp only [cond_true] at r2'; omega
          rw [hbs1, if_neg, hz]
          intro hm
          obtain ⟨e, xs, fz, hx⟩ := hfs _ hm
          rw [hz] at hx; cases hx
        rw [hmap] at hfr hext hnew
        obtain ⟨E2, hsim⟩ := after_callO hs1 (os := os) (fun r hr => by
            obtain ⟨e, xs, hx⟩ := (hos' r hr).1
            exact ⟨e, xs, (hb1 r hr).trans hx⟩) (fun r hr => (hos' r hr).2.1) hd (E0 := E0) e0 rfl r1' hfree r6 hfr hv r5 hB hext hnew o.dst
        exact ⟨_, E2, hout, sim_app_two hsim⟩

/-! ### Calls that are walked into -/
/-- What blocks may be written by it. -/
def inM (s : St) (E : Env) : Nat → Prop := fun b => ∃ r, mblk s.bs E r = some b
/-- What a call that is walked into owes. -/
def SoundJ (P : Program) (T : Nat → TI) (J : Inl) : Prop := ∀ f ar s K Pp, J f ar s K Pp →
  (∃ fn c, P.funcs[f]? = some fn ∧ fn.body = some c ∧ (fn.name == "runtime.NumGoroutine") = false) ∧
  ∀ (w : World) (E : Env) (vs : Array Value), A2 (RA s.bs w E) ar vs.toList → Blocks T s.bs w E → (∀ b, E.F b → b < w.heap.size) → (∀ r, s.nx ≤ r → s.bs r = .none) →
    Calls P f vs w fun e w' => (∃ s' E', Frame ⟨w, E.F, inM s E⟩ w' E'.F ∧ BExt s.bs E s'.bs E' ∧ Blocks T s'.bs w' E' ∧ (∀ r, s'.nx ≤ r → s'.bs r = .none) ∧
        (∀ r b, mblk s'.bs E' r = some b → (r < s.nx ∧ mblk s.bs E r = some b) ∨ w.heap.size ≤ b) ∧ ∃ r v, e = .returned v ∧ RA s'.bs w' E' r v ∧ K r s') ∨
      ∃ v F', e = .panicked [{ v, recovered := false }] ∧ Pp v ∧ Frame ⟨w, E.F, inM s E⟩ w' F'

theorem updL_blkList {s s' : St} {E E' : Env} (hb : BExt s.bs E s'.bs E') (ht' : ∀ r, s'.nx ≤ r → s'.bs r = .none) : updL s.bs (blkList s') = s'.bs := by
  funext q
  unfold blkList
  rw [updL_map s.bs s'.bs (List.range s'.nx) q]
  by_cases h : q < s'.nx
  · rw [if_pos (List.mem_range.2 h)]
  · rw [if_neg (fun hm => h (List.mem_range.1 hm)), ht' q (by omega)]
    cases hq : s.bs q with
    | none => rfl
    | _ =>
      have := hb q (by rw [hq]; simp)
      rw [ht' q (by omega)] at this
      exact this.elim

theorem after_callI (hs : Sim G.T X s a w E) {w' : World} {s' : St} {E' : Env} (hfr : Frame ⟨w, E.F, inM s E⟩ w' E'.F) (hb : BExt s.bs E s'.bs E') (hbl : Blocks G.T s'.bs w' E')
    (ht' : ∀ r, s'.nx ≤ r → s'.bs r = .none) (hown : ∀ r b, mblk s'.bs E' r = some b → (r < s.nx ∧ mblk s.bs E r = some b) ∨ w.heap.size ≤ b)
    {r : AV} {v : Value} (hv : RA s'.bs w' E' r v) (dst : Option Nat) : Sim G.T X (s.app dst ⟨r, blkList s', s'.nx⟩) (a.put dst v) w' E' := by
  have e := updL_blkList hb ht'
  have hFl : ∀ b, E.F b → b < w.heap.size := fun b hb => (hs.fr.flt b hb).1
  refine hs.step dst (bl := blkList s') (E' := E') ⟨fun b h => hfr.fge b h, fun b h => hfr.keep b (hFl b h) ?_⟩ (by rw [e]; exact hb) (by rw [e]; exact hv) (by rw [e]; exact hbl) (by
    rw [e]
    intro q b h
    rcases hown q b h with ⟨_, h1⟩ | h1
    · exact hs.own q b h1
    · exact .inr (Nat.le_trans hs.fr.grow h1)) ?_
  · rintro ⟨q, hq⟩
    exact (hs.bl.mt q b hq).1 h
  · refine Frame.trans hs.fr hfr ?_ (fun b h => (hs.fr.flt b h).2) (fun b h => hfr.fge b (hs.fr.fge b h))
    rintro b ⟨q, hq⟩
    exact (hs.own q b hq).imp (fun h => hs.mo _ _ h.2) (fun h => h)

theorem capsR_sound : ∀ {l : List AV} {us : List Value} {m : List CapR}, capsR s l = some m → Blocks G.T s.bs w E → A2 (RA s.bs w E) l us → A2 (RCapR s.bs w E) m us
  | [], [], m, h, _, _ => by simp [capsR] at h; subst h; trivial
  | x :: l, u :: us, m, h, hB, hA => by
    unfold capsR at h
    split at h
    · rename_i he; cases he
    · rename_i r o l' he
      cases he
      split at h
      · rename_i cs hr
        cases hq : capsR s l with
        | none => simp [hq] at h
        | some m' =>
          simp [hq] at h
          subst h
          refine ⟨⟨?_, hA.1.2⟩, capsR_sound hq hB hA.2⟩
          have := hA.1.1
          simp only [RC] at this
          exact this
      · rename_i cs hr
        split at h
        · cases hq : capsR s l with
          | none => simp [hq] at h
          | some m' =>
            simp [hq] at h
            subst h
            refine ⟨?_, capsR_sound hq hB hA.2⟩
            have hu := hA.1.1
            simp only [RC, hr] at hu
            have hBr := hB.blk r
            rw [hr] at hBr
            obtain ⟨q0, ar, ty, fr, q1, q2⟩ := hBr
            refine ⟨E.σ r, 0, by simpa using hu, q0, fun j c hj => ?_⟩
            obtain ⟨v, hv, hr1, hr2⟩ := q2.get j c hj
            refine ⟨v, ?_, hr2, hr1⟩
            rw [cell_of_row w _ _ ar ty _ q1]; simpa using hv
        · cases h
      · cases h
    · rename_i cs l' he
      cases he
      cases hq : capsR s l with
      | none => simp [hq] at h
      | some m' =>
        simp [hq] at h
        subst h
        exact ⟨hA.1.1, capsR_sound hq hB hA.2⟩
    · rename_i x' l' he
      cases he
      cases hq : capsR s l with
      | none => simp [hq] at h
      | some m' =>
        simp [hq] at h
        subst h
        exact ⟨⟨hA.1.1, hA.1.2⟩, capsR_sound hq hB hA.2⟩
    · cases h
theorem capRA_sound {bs : Nat → Blk} (hcap : ∀ {c : Cap} {y : Value}, RCap w E.F c y → RA bs w E (capAV c) y) : ∀ {l : List CapR} {us : List Value}, A2 (RCapR bs w E) l us → A2 (RA bs w E) (l.map capRA) us
  | [], [], _ => trivial
  | .ref r o :: l, u :: us, h => ⟨⟨h.1.1, h.1.2⟩, capRA_sound hcap h.2⟩
  | .fix c :: l, u :: us, h => ⟨hcap h.1, capRA_sound hcap h.2⟩

theorem callI_sound (hJ : SoundJ P G.T J) (hs : Sim G.T X s a w E) (hQ : PanQ X Pp Qc) (o : Oper) {f : FuncId} {ar : List AV} {vs : Array Value} (hA : A2 (RA s.bs w E) ar vs.toList)
    (hrun : ∀ fn c, P.funcs[f]? = some fn → fn.body = some c → (fn.name == "runtime.NumGoroutine") = false → (execOp a.eval o).run P w = .ok (.enter f vs) w) (htop : Top s)
    (h : wpInl J f ar s (fun r s' => K ⟨r, blkList s', s'.nx⟩) Pp) : o.upon P a (Nxt G X s o.dst K) Qc ((execOp a.eval o).run P w) := by
  obtain ⟨⟨fn, cc, h1, h2, h3⟩, hsound⟩ := hJ _ _ _ _ _ h.h
  rw [hrun fn cc h1 h2 h3]
  refine Calls.mono (hsound w E vs hA hs.bl (fun b hb => (hs.fr.flt b hb).1) htop) ?_
  rintro e w' (⟨s', E', g1, g2, g3, g4, g5, r, v, rfl, g6, g7⟩ | ⟨v, F', rfl, g1, g2⟩)
  · exact ⟨_, E', g7, after_callI hs g1 g2 g3 g4 g5 g6 o.dst⟩
  · refine hQ v a w' F' g1 hs.defers (Frame.trans hs.fr g2 ?_ (fun b h => (hs.fr.flt b h).2) (fun b h => g2.fge b (hs.fr.fge b h)))
    rintro b ⟨q, hq⟩
    exact (hs.own q b hq).imp (fun h => hs.mo _ _ h.2) (fun h => h)
end
end Go.Fw
/- Each operation runs well: all of them. -/
namespace Go.Fw
open Go Go.RowKit

section
variable {P : Program} {G : Cfg} (ht : TOK P G.T) {X : Ctx2} {s : St} {a : Act} {w : World} {E : Env} {C : CallRel} {J : Inl} {Pp : Value → Prop} {Qc : Exit → Act → World → Prop} {K : Eff → Prop}

theorem callFunc_run {f : FuncId} {fn : Func} {c : Code} (hf : P.funcs[f]? = some fn) (hb : fn.body = some c) (hn : (fn.name == "runtime.NumGoroutine") = false) (vs : Array Value) :
    (callFunc f vs).run P w = .ok (.enter f vs) w := by
  have hn' : fn.name ≠ "runtime.NumGoroutine" := by simpa using hn
  simp [callFunc, hf, hn', hb]

theorem execCall_run {o : Oper} {c : Call} (ho : o.op = .call c) {g : Operand} (hg : c.callee = .value g) {f : FuncId} {p q : Array Value} (hv : a.eval g = .func (.func f) p q) {fn : Func} {cc : Code}
    (hf : P.funcs[f]? = some fn) (hb : fn.body = some cc) (hn : (fn.name == "runtime.NumGoroutine") = false) :
    (execOp a.eval o).run P w = .ok (.enter f (p ++ c.args.map a.eval ++ q)) w := by
  simp only [execOp, ho, resolve, hg, hv, Deferred.ofValue]
  simp only [Sem.run_bind, Sem.run_pure, Result.andThen_ok, invoke]
  exact callFunc_run hf hb hn _

theorem frame_callA (hs : Sim G.T X s a w E) {F1 : Nat → Prop} {w' : World} {F' : Nat → Prop} (hfr : Frame ⟨w, F1, fun _ => False⟩ w' F') : Frame X.toCtx w' E.F :=
  { flt := fun b hb => ⟨Nat.lt_of_lt_of_le (hs.fr.flt b hb).1 hfr.grow, (hs.fr.flt b hb).2⟩, fge := hs.fr.fge, os := hfr.os.trans hs.fr.os, tape := hfr.tape.trans hs.fr.tape,
    output := hfr.output.trans hs.fr.output, grow := Nat.le_trans hs.fr.grow hfr.grow,
    keep := fun b hb hn => (hfr.keep b (Nat.lt_of_lt_of_le hb hs.fr.grow) (fun h => h)).trans (hs.fr.keep b hb hn) }
theorem capAV_sound {F : Nat → Prop} {bs : Nat → Blk} {E : Env} (hE : E.F = F) {c : Cap} {y : Value} (h : RCap w F c y) : RA bs w E (capAV c) y := by
  subst hE
  cases c with
  | c x => exact ⟨h.1, h.2⟩
  | pv cs =>
    refine ⟨h, ?_⟩
    obtain ⟨b, off, e, _⟩ := h
    rw [e]; rfl
  | ag cs =>
    obtain ⟨ar, e, hA⟩ := h
    exact ⟨ar, e, A2.map_left (f := Cell.p) hA⟩
theorem caps_sound {F : Nat → Prop} {bs : Nat → Blk} {E : Env} (hE : E.F = F) : ∀ {l : List Cap} {us : List Value}, A2 (RCap w F) l us → A2 (RA bs w E) (l.map capAV) us
  | [], [], _ => trivial
  | _ :: _, _ :: _, h => ⟨capAV_sound hE h.1, caps_sound hE h.2⟩

theorem evs_sound (hs : Sim G.T X s a w E) : ∀ l : List Operand, A2 (RA s.bs w E) (l.map s.ev) (l.map a.eval)
  | [] => trivial
  | x :: l => ⟨hs.ev x, evs_sound hs l⟩

theorem sim_app_nil {dst : Option Nat} {r : AV} {bl : List (Nat × Blk)} {nx : Nat} {a' : Act} {w' : World} {E' : Env}
    (h : Sim G.T X ({ s with bs := updL s.bs bl }.app dst ⟨r, [], nx⟩) a' w' E') : Sim G.T X (s.app dst ⟨r, bl, nx⟩) a' w' E' := by
  have e : ({ s with bs := updL s.bs bl } : St).app dst ⟨r, [], nx⟩ = s.app dst ⟨r, bl, nx⟩ := by
    cases dst <;> rfl
  rw [← e]; exact h

theorem preOf_sound {bs : Nat → Blk} {E : Env} : ∀ {l : List AV} {us : List Value} {m : List Cap}, preOf l = some m → A2 (RA bs w E) l us → A2 (RCap w E.F) m us
  | [], [], m, h, _ => by simp [preOf] at h; subst h; trivial
  | x :: l, u :: us, m, h, hA => by
    unfold preOf at h
    split at h
    · rename_i he; cases he
    · rename_i c l' he
      cases he
      cases hp : preOf l with
      | none => simp [hp] at h
      | some m' =>
        simp [hp] at h
        subst h
        exact ⟨⟨hA.1.1, hA.1.2⟩, preOf_sound hp hA.2⟩
    · rename_i cs l' he
      cases he
      split at h
      · rename_i ps m' h1 h2
        cases h
        obtain ⟨ar, e, hq⟩ := hA.1
        exact ⟨⟨ar, e, pcsOf_sound h1 hq⟩, preOf_sound h2 hA.2⟩
      · cases h
    · cases h

theorem capsL_sound (hs : Sim G.T X s a w E) : ∀ {l : List AV} {us : List Value} {m : List Cap} {rs : List Nat}, capsL s l = some (m, rs) → A2 (RA s.bs w E) l us →
    (∀ r ∈ rs, Fixable s r) ∧ ∀ F1 : Nat → Prop, (∀ b, E.F b → F1 b) → (∀ r ∈ rs, ∀ b, blkOf s.bs E r = some b → F1 b) → A2 (RCap w F1) m us
  | [], [], m, rs, h, _ => by simp [capsL] at h; obtain ⟨rfl, rfl⟩ := h; exact ⟨by simp, fun _ _ _ => trivial⟩
  | x :: l, u :: us, m, rs, h, hA => by
    unfold capsL at h
    split at h
    · rename_i he; cases he
    · rename_i r l' he
      cases he
      have hu := hA.1.1
      split at h
      · rename_i cs hr
        cases hq : capsL s l with
        | none => simp [hq] at h
        | some p =>
          obtain ⟨m', rs'⟩ := p
          simp [hq] at h
          obtain ⟨rfl, rfl⟩ := h
          obtain ⟨g1, g2⟩ := capsL_sound hs hq hA.2
          refine ⟨g1, fun F1 h1 h2 => ⟨?_, g2 F1 h1 h2⟩⟩
          have hB := hs.bl.blk r
          rw [hr] at hB
          obtain ⟨q0, ar, ty, fr, q1, q2⟩ := hB
          refine ⟨E.σ r, 0, ?_, h1 _ q0, fun j c hj => ?_⟩
          · simp only [RC, hr] at hu; simpa using hu
          · obtain ⟨v, hv, hr1, hr2⟩ := q2.get j c hj
            refine ⟨v, ?_, hr2, hr1.ext ⟨h1, fun _ _ => rfl⟩⟩
            rw [cell_of_row w _ _ ar ty _ q1]; simpa using hv
      · rename_i cs hr
        split at h
        · rename_i ps hps
          cases hq : capsL s l with
          | none => simp [hq] at h
          | some p =>
            obtain ⟨m', rs'⟩ := p
            simp [hq] at h
            obtain ⟨rfl, rfl⟩ := h
            obtain ⟨g1, g2⟩ := capsL_sound hs hq hA.2
            refine ⟨fun q hq => ?_, fun F1 h1 h2 => ⟨?_, g2 F1 h1 fun q hq b hb => h2 q (by simp [hq]) b hb⟩⟩
            · rcases List.mem_cons.1 hq with rfl | hq
              · exact .inr ⟨cs, ps, hr, hps⟩
              · exact g1 q hq
            · have hB := hs.bl.blk r
              rw [hr] at hB
              obtain ⟨ar, ty, q1, q2⟩ := hB
              refine ⟨E.σ r, 0, ?_, h2 r (by simp) _ (by simp [blkOf, hr]), fun j c hj => ?_⟩
              · simp only [RC, hr] at hu; simpa using hu
              · obtain ⟨v, hv, hr1, hr2⟩ := (pcsOf_sound hps q2).get j c hj
                refine ⟨v, ?_, hr2, hr1.ext ⟨h1, fun _ _ => rfl⟩⟩
                rw [cell_of_row w _ _ ar ty _ q1]; simpa using hv
        · cases h
      · cases h
    · cases h

include ht
theorem op_call (hC : ∀ f ar bs out bs', C f ar bs out bs' → Sound P G.T f ar bs out bs') (hs : Sim G.T X s a w E) (hQ : PanQ X Pp Qc) (o : Oper) {c : Call} (ho : o.op = .call c) {g : Operand} (hg : c.callee = .value g)
    {f : FuncId} {pre caps : List Cap} (he : s.ev g = .w (.one (.fn f pre caps)))
    (h : argsK s (c.args.toList.map s.ev) fun ar rs => wpCall C f (pre.map capAV ++ ar ++ caps.map capAV)
          (fun r => bsel (noSlA r) (K ⟨r, [], s.nx⟩) (bsel (rs.all fun r => Nat.ble s.lo r) (K ⟨r, rs.map fun r => (r, fixB s r), s.nx⟩) False)) Pp) :
    o.upon P a (Nxt G X s o.dst K) Qc ((execOp a.eval o).run P w) := by
  have hv := hs.ev g
  rw [he] at hv
  obtain ⟨p, q, hfv, hp, hq⟩ := hv.1
  obtain ⟨ar, rs, ⟨out, hcall, hout⟩, hrs, hargs⟩ := argsK_sound hs.bl (evs_sound hs c.args.toList) h
  obtain ⟨⟨fn, cc, h1, h2, h3⟩, hsound⟩ := hC _ _ _ _ _ hcall
  rw [execCall_run ho hg hfv h1 h2 h3]
  have hfx : ∀ r ∈ rs, Fixable s r := fun r hr => .inl (hrs r hr)
  -- what the callee may look at
  let F1 : Nat → Prop := fun b => E.F b ∨ ∃ r ∈ rs, blkOf s.bs E r = some b
  have hF1 : ∀ b, E.F b → F1 b := fun b hb => .inl hb
  have hlt1 : ∀ b, F1 b → b < w.heap.size := by
    rintro b (hb | ⟨r, hr, hb⟩)
    · exact (hs.fr.flt b hb).1
    · obtain ⟨e, xs, fz, h⟩ := hrs r hr
      have hB := hs.bl.blk r
      rw [h] at hB
      simp only [blkOf, h] at hb
      exact (hB.2.2.2.1.lt b hb).2
  have hA : A2 (RA (bsF []) w ⟨E.σ, E.sv, F1⟩) (pre.map capAV ++ ar ++ caps.map capAV) (p ++ c.args.map a.eval ++ q).toList := by
    rw [bsF_nil]
    simp only [Array.toList_append, Array.toList_map]
    refine A2.append (A2.append ?_ (hargs F1 hF1 fun r hr b hb => .inr ⟨r, hr, ?_⟩)) ?_
    · exact caps_sound (F := F1) rfl (hp.mono fun _ _ h => h.ext ⟨hF1, fun _ _ => rfl⟩)
    · obtain ⟨e, xs, fz, h⟩ := hrs r hr
      simp [blkOf, h, hb]
    · exact caps_sound (F := F1) rfl (hq.mono fun _ _ h => h.ext ⟨hF1, fun _ _ => rfl⟩)
  have hbl0 : Blocks G.T (bsF []) w ⟨E.σ, E.sv, F1⟩ := by
    rw [bsF_nil]
    exact ⟨fun _ => trivial, fun r r' b h => by simp [mblk] at h, fun r b h => by simp [mblk] at h⟩
  refine Calls.mono (hsound w ⟨E.σ, E.sv, F1⟩ _ hA hbl0 hlt1) ?_
  rintro e w' ⟨E1, hfr, hr⟩
  have hfr' : Frame ⟨w, F1, fun _ => False⟩ w' E1.F :=
    { flt := hfr.flt, fge := hfr.fge, os := hfr.os, tape := hfr.tape, output := hfr.output, grow := hfr.grow,
      keep := fun b hb _ => hfr.keep b hb (by rintro ⟨r, h⟩; simp [bsF_nil, mblk] at h) }
  cases out with
  | ret r =>
    obtain ⟨v, rfl, hv, _⟩ := hr
    rw [bsF_nil] at hv
    simp only at hout
    show Nxt G X s o.dst K (a.put o.dst v) w'
    cases hn : noSlA r with
    | true =>
      rw [hn] at hout
      exact ⟨_, E, hout, after_callA hs hfr' hv hn _⟩
    | false =>
      rw [hn] at hout
      cases hlo : (rs.all fun r => Nat.ble s.lo r) with
      | false => rw [hlo] at hout; exact hout.elim
      | true =>
        rw [hlo] at hout
        exact ⟨_, _, hout, sim_app_nil (after_callB (hs.fix hfx hlo) hfr' hv _)⟩
  | pan v =>
    subst hr
    simp only at hout
    exact hQ v a w' E.F hout hs.defers (frame_callA hs hfr')

theorem op_sound (hC : ∀ f ar bs out bs', C f ar bs out bs' → Sound P G.T f ar bs out bs') (hJ : SoundJ P G.T J) (hs : Sim G.T X s a w E) (hQ : PanQ X Pp Qc) (o : Oper) {dr : Bool} (htop : dr = false → Top s)
    (h : wpOp G C J dr o s Pp K) : o.upon P a (Nxt G X s o.dst K) Qc ((execOp a.eval o).run P w) := by
  cases hop : o.op with
  | binOp op t x y ty => exact op_binOp ht hs o hop h
  | pick c x y =>
    simp only [wpOp, hop] at h
    split at h
    · rename_i b he
      have hc := hs.ev c
      rw [he] at hc
      refine fin_pure hs o (val := if b then a.eval x else a.eval y) ?_ ?_ h
      · simp only [execOp, hop, RA_val hc, asBool]
        cases b <;> rfl
      · cases b
        · exact hs.ev y
        · exact hs.ev x
    · exact h.elim
  | alloc t =>
    simp only [wpOp, hop] at h
    split at h
    · rename_i hr
      cases hk : okT G t
      · rw [hk] at h; exact h.elim
      · rw [hk] at h
        have hne := okT_ne ht hk
        have hrun : (execOp a.eval o).run P w = .ok (.value (.pointer (some ⟨w.heap.size, 0, none⟩))) (w.alloc (.cells (G.T t).zero.cells t)) := by
          simp [execOp, hop, Instr.alloc, ht.zero hne, newVar, newRow]
        rw [hrun]
        exact ⟨_, _, h, alloc_step hs hr t (zeroCs_ok ht hne) _ _ (G.tv t)⟩
    · exact h.elim
  | box t x =>
    simp only [wpOp, hop] at h
    split at h
    · rename_i hr
      cases hk : okBox (s.ev x)
      · rw [hk] at h; exact h.elim
      · rw [hk] at h
        have hrun : (execOp a.eval o).run P w = .ok (.value (.pointer (some ⟨w.heap.size, 0, none⟩))) (w.alloc (.cells (a.eval x).cells t)) := by
          simp [execOp, hop, Instr.box, newVar, newRow]
        rw [hrun]
        exact ⟨_, _, h, alloc_step hs hr t (RA_cells (hs.ev x) hk) _ _⟩
    · exact h.elim
  | store t x y =>
    simp only [wpOp, hop] at h
    split at h
    · rename_i r off he
      split at h
      · rename_i cs hr
        cases hk : (okT G t && okBox (s.ev y) && Nat.beq (cellsA (s.ev y)).length (sizeT G t) && Nat.ble (off + sizeT G t) cs.length)
        · rw [hk] at h; exact h.elim
        · rw [hk] at h
          simp only [Bool.and_eq_true] at hk
          obtain ⟨⟨⟨k1, k2⟩, k3⟩, k4⟩ := hk
          have k3' := Nat.eq_of_beq_eq_true k3
          have k4' := Nat.le_of_ble_eq_true k4
          have hx := hs.ev x
          rw [he] at hx
          have hxp : a.eval x = .pointer (some ⟨E.σ r, off, none⟩) := by have := hx.1; simp only [RC, hr] at this; exact this
          have hA := RA_cells (hs.ev y) k2
          have hl := hA.length
          obtain ⟨w', hrun, hsim⟩ := store_step hs hr hA (off := off) (by omega) o.dst undef
          have hr2 : (execOp a.eval o).run P w = .ok .skip w' := by
            have hsz := ht.sizeOf (okT_ne ht k1) w
            have hne : ¬ (a.eval y).cells.size ≠ (G.T t).size := by
              have : (a.eval y).cells.toList.length = (G.T t).size := by rw [← hl, k3']; rfl
              simpa using this
            have hne' : (a.eval y).cells.size = (G.T t).size := by simpa using hne
            simp [execOp, hop, hxp, Instr.storeAt, Instr.sureAddr, storeVar, hsz, hne', hrun P]
          rw [hr2]
          exact ⟨_, E, h, hsim⟩
      · exact h.elim
    · rename_i r n i off he
      split at h
      · rename_i e xs vs hr hv
        cases hk : (okT G t && okBox (s.ev y) && Nat.beq vs.length (sizeT G t) && Nat.ble (off + sizeT G t) (sizeT G e))
        · rw [hk] at h; exact h.elim
        · rw [hk] at h
          simp only [Bool.and_eq_true] at hk
          obtain ⟨⟨⟨k1, k2⟩, k3⟩, k4⟩ := hk
          obtain ⟨hn, ⟨es, _, hes, _, hK⟩⟩ := h
          exact vstore_sound ht hs o hop he hr hv k1 k2 (Nat.eq_of_beq_eq_true k3) (Nat.le_of_ble_eq_true k4) hn (by simpa using hes) hK
      · exact h.elim
    · exact h.elim
  | panic x =>
    simp only [wpOp, hop] at h
    split at h
    · rename_i t v he
      have hx := hs.ev x
      rw [he] at hx
      have hrun : (execOp a.eval o).run P w = .halt (.panic (.iface t v)) w := by
        simp [execOp, hop, RA_val hx, Instr.panic]
      rw [hrun]
      exact hQ _ a w E.F h hs.defers hs.fr
    · exact h.elim
  | makeFunc fn first caps =>
    cases fn with
    | func f =>
      simp only [wpOp, hop] at h
      cases hsh : G.shared f with
      | true =>
        rw [hsh] at h
        simp only [bsel] at h
        split at h
        · rename_i p m hp hm
          have hrun : (execOp a.eval o).run P w = .ok (.value (.func (.func f) (first.map a.eval) (caps.map a.eval))) w := by
            simp [execOp, hop, Instr.makeFunc]
          refine fin_pure hs o hrun ?_ h
          refine ⟨⟨_, _, rfl, ?_, ?_⟩, rfl⟩
          · rw [Array.toList_map]; exact capsR_sound hp hs.bl (evs_sound hs first.toList)
          · rw [Array.toList_map]; exact capsR_sound hm hs.bl (evs_sound hs caps.toList)
        · exact h.elim
      | false =>
      rw [hsh] at h
      simp only [bsel] at h
      split at h
      · rename_i pre hpre
        split at h
        · rename_i m rs hcap
          cases hlo : (rs.all fun r => Nat.ble s.lo r) with
          | false => rw [hlo] at h; exact h.elim
          | true =>
            simp only [hlo] at h
            have g1 := preOf_sound hpre (evs_sound hs first.toList)
            obtain ⟨g2, g3⟩ := capsL_sound hs hcap (evs_sound hs caps.toList)
            have hrun : (execOp a.eval o).run P w = .ok (.value (.func (.func f) (first.map a.eval) (caps.map a.eval))) w := by
              simp [execOp, hop, Instr.makeFunc]
            rw [hrun]
            have hv : RA (updL s.bs (rs.map fun r => (r, fixB s r))) w ⟨E.σ, E.sv, fun b => E.F b ∨ ∃ r ∈ rs, blkOf s.bs E r = some b⟩ (.one (.fn f pre m)) (.func (.func f) (first.map a.eval) (caps.map a.eval)) := by
              refine ⟨⟨_, _, rfl, ?_, ?_⟩, rfl⟩
              · rw [Array.toList_map]; exact g1.mono fun _ _ hq => hq.ext ⟨fun _ hb => .inl hb, fun _ _ => rfl⟩
              · rw [Array.toList_map]; exact g3 _ (fun _ hb => .inl hb) (fun r hr b hb => .inr ⟨r, hr, hb⟩)
            exact ⟨_, _, h, sim_app_nil ((hs.fix g2 hlo).pure o.dst hv)⟩
        · exact h.elim
      · exact h.elim
    | _ => simp [wpOp, hop, evReq, evPure] at h
  | call c =>
    simp only [wpOp, hop] at h
    split at h
    · rename_i hg
      split at h
      · rename_i x t e1 e2
        have ea : c.args = #[x] := by cases hh : c.args; simp_all
        have et : c.argTypes = #[t] := by cases hh : c.argTypes; simp_all
        have hx := hs.ev x
        split at h
        · rename_i l hk he
          rw [he] at hx
          refine fin_pure hs o (val := .int .i64 l.length) ?_ (RA_val_mk _ rfl) h
          simp [execOp, hop, resolve, hg, invoke, builtin, ea, et, RA_val hx, Builtin.len_, run_underlying (ht.str hk), goInt]
          rfl
        · rename_i e l hk he
          rw [he] at hx
          obtain ⟨ad, cap, hy, q1, _, q3, _⟩ := RA_sl hx
          refine fin_pure hs o (val := .int .i64 l.length) ?_ (RA_val_mk _ rfl) (h.h (fun _ => q3))
          simp [execOp, hop, resolve, hg, invoke, builtin, ea, et, hy, Builtin.len_, run_underlying (ht.slice hk), goInt]
        · rename_i e l hk he
          rw [he] at hx
          obtain ⟨ad, cap, hy, q1, _, q3, _⟩ := hx.1
          refine fin_pure hs o (val := .int .i64 l.length) ?_ (RA_val_mk _ rfl) (h.h (fun _ => q3))
          simp [execOp, hop, resolve, hg, invoke, builtin, ea, et, hy, Builtin.len_, run_underlying (ht.slice hk), goInt]
        · rename_i e hk he
          rw [he] at hx
          have hy : a.eval x = .slice none 0 0 := hx.1
          refine fin_pure hs o (val := .int .i64 0) ?_ (RA_val_mk _ rfl) h
          simp [execOp, hop, resolve, hg, invoke, builtin, ea, et, hy, Builtin.len_, run_underlying (ht.slice hk), goInt]
        · rename_i e r n hk he
          rw [he] at hx
          split at h
          · rename_i e' xs fz hr
            obtain ⟨hn, hK⟩ := h
            have hB := hs.bl.blk r
            rw [hr] at hB
            have hv : a.eval x = E.sv r := by
              have h1 := hx.1
              simp only [RC, hr] at h1
              exact h1.2 hn
            have hvl : ∃ ad cap, E.sv r = .slice ad n cap := by
              rcases hB.2.2.2.1.2 with ⟨h1, h2⟩ | ⟨g, cap, cur, h1, _⟩
              · exact ⟨none, 0, by rw [h1, ← hn, h2]⟩
              · exact ⟨_, cap, by rw [h1, hn]⟩
            obtain ⟨ad, cap, hsv⟩ := hvl
            refine fin_pure hs o (val := .int .i64 n) ?_ (RA_val_mk _ rfl) (hK.h (fun _ => by rw [← hn]; exact hB.2.2.1))
            simp [execOp, hop, resolve, hg, invoke, builtin, ea, et, hv, hsv, Builtin.len_, run_underlying (ht.slice hk), goInt]
          · exact h.elim
        · exact h.elim
      · exact h.elim
    · rename_i b hnl hg
      split at h
      · rename_i r hr
        exact bi_sound ht hs o hop hg hr h
      · exact h.elim
    · rename_i g hg
      split at h
      · rename_i f pre caps he
        cases dr with
        | true => exact h.elim
        | false =>
          have hv := hs.ev g
          rw [he] at hv
          obtain ⟨p, q, hfv, hp, hq⟩ := hv.1
          refine callI_sound hJ hs hQ o (vs := p ++ c.args.map a.eval ++ q) ?_ (fun fn cc h1 h2 h3 => execCall_run hop hg hfv h1 h2 h3) (htop rfl) h
          simp only [Array.toList_append, Array.toList_map]
          exact A2.append (A2.append (capRA_sound (capAV_sound rfl) hp) (evs_sound hs c.args.toList)) (capRA_sound (capAV_sound rfl) hq)
      · rename_i f pre caps he
        cases hin : inlCall G g (c.args.toList.map s.ev) with
        | true =>
          rw [hin] at h
          cases dr with
          | true => exact h.elim
          | false =>
            have hv := hs.ev g
            rw [he] at hv
            obtain ⟨p, q, hfv, hp, hq⟩ := hv.1
            refine callI_sound hJ hs hQ o (vs := p ++ c.args.map a.eval ++ q) ?_ (fun fn cc h1 h2 h3 => execCall_run hop hg hfv h1 h2 h3) (htop rfl) h
            simp only [Array.toList_append, Array.toList_map]
            exact A2.append (A2.append (caps_sound rfl hp) (evs_sound hs c.args.toList)) (caps_sound rfl hq)
        | false =>
        rw [hin] at h
        simp only [bsel] at h
        cases hown : ownCall G g with
        | false => simp only [hown] at h; exact op_call ht hC hs hQ o hop hg he h
        | true =>
          simp only [hown] at h
          have hv := hs.ev g
          rw [he] at hv
          obtain ⟨p, q, hfv, hp, hq⟩ := hv.1
          refine callO_sound hC hs hQ o hp hq (evs_sound hs c.args.toList) (fun hE => caps_sound hE) (fun fn cc h1 h2 h3 => ?_) h
          rw [execCall_run hop hg hfv h1 h2 h3]
          congr 2
          apply Array.ext'
          simp
      · exact h.elim
    · exact h.elim
  | _ =>
    simp only [wpOp, hop] at h
    split at h
    · rename_i r hr
      rw [← hop] at hr
      exact req_sound ht hs o hr h
    · exact h.elim
end
end Go.Fw
/- Maps: what their laws need. -/
namespace Go.Fw
open Go Go.RowKit Go.MapKept

def descK : Nat → TypeDesc
  | 0 => .int .i64
  | 1 => .string
  | _ => .bool
theorem keyK_cases : ∀ {kk : Nat} {k : Value}, keyK kk k = true → (kk = 0 ∧ ∃ n, k = .int .i64 n) ∨ (kk = 1 ∧ ∃ x, k = .string ⟨⟨x⟩⟩) ∨ (kk = 2 ∧ ∃ b, k = .bool b) := by
  intro kk k h
  unfold keyK at h
  split at h
  · exact .inl ⟨rfl, _, rfl⟩
  · exact .inr (.inl ⟨rfl, _, rfl⟩)
  · exact .inr (.inr ⟨rfl, _, rfl⟩)
  · cases h
theorem keyK_isKey {kk : Nat} {k : Value} (h : keyK kk k = true) : IsKey (descK kk) k := by
  rcases keyK_cases h with ⟨rfl, n, rfl⟩ | ⟨rfl, x, rfl⟩ | ⟨rfl, b, rfl⟩
  · exact rfl
  · trivial
  · trivial
theorem keq_iff {kk : Nat} {a b : Value} (ha : keyK kk a = true) (hb : keyK kk b = true) : keq a b = true ↔ a = b := by
  rcases keyK_cases ha with ⟨rfl, n, rfl⟩ | ⟨rfl, x, rfl⟩ | ⟨rfl, c, rfl⟩ <;> rcases keyK_cases hb with ⟨h, m, rfl⟩ | ⟨h, y, rfl⟩ | ⟨h, d, rfl⟩ <;> first | cases h | skip
  · simp [keq]
  · simp [keq]
  · simp [keq]
theorem keyK_one {kk : Nat} {k : Value} (h : keyK kk k = true) : k.oneCell' = true := by
  rcases keyK_cases h with ⟨rfl, n, rfl⟩ | ⟨rfl, x, rfl⟩ | ⟨rfl, c, rfl⟩ <;> rfl

section
variable {kk : Nat} {k : Value} (hk : keyK kk k = true)
include hk
theorem m_none : ∀ {m : List (Value × Int)}, (∀ p ∈ m, keyK kk p.1 = true) → (∀ p ∈ m, p.1 ≠ k) → mget m k = 0 ∧ mhas m k = false ∧ (∀ n, mset m k n = m ++ [(k, n)]) ∧ mdel m k = m
  | [], _, _ => ⟨rfl, rfl, fun _ => rfl, rfl⟩
  | (k', n') :: m, h, hn => by
    obtain ⟨h1, h2, h3, h4⟩ := m_none (m := m) (fun p hp => h p (by simp [hp])) (fun p hp => hn p (by simp [hp]))
    have e : keq k k' = false := by
      cases hq : keq k k' with
      | false => rfl
      | true => exact absurd ((keq_iff hk (h (k', n') (by simp))).1 hq).symm (hn (k', n') (by simp))
    refine ⟨by simp [mget, e, h1], by simp [mhas, e, h2], fun n => by simp [mset, e, h3], by simp [mdel, e, h4]⟩
theorem m_some : ∀ {m : List (Value × Int)} {j : Nat} {p : Value × Int}, (∀ p ∈ m, keyK kk p.1 = true) → (m.map (·.1)).Nodup → m[j]? = some p → p.1 = k →
    mget m k = p.2 ∧ mhas m k = true ∧ (∀ n, mset m k n = m.modify j fun p => (p.1, n)) ∧ mdel m k = m.eraseIdx j
  | [], _, _, _, _, h, _ => by simp at h
  | (k', n') :: m, 0, p, h, _, hp, he => by
    simp at hp
    subst hp
    have e : keq k k' = true := (keq_iff hk (h (k', n') (by simp))).2 he.symm
    exact ⟨by simp [mget, e], by simp [mhas, e], fun n => by simp [mset, e], by simp [mdel, e]⟩
  | (k', n') :: m, j + 1, p, h, hnd, hp, he => by
    simp only [List.map_cons, List.nodup_cons] at hnd
    obtain ⟨h1, h2, h3, h4⟩ := m_some (m := m) (fun p hp => h p (by simp [hp])) hnd.2 (by simpa using hp) he
    have e : keq k k' = false := by
      cases hq : keq k k' with
      | false => rfl
      | true =>
        have e1 := (keq_iff hk (h (k', n') (by simp))).1 hq
        exact absurd (List.mem_map.2 ⟨p, List.mem_of_getElem? (by simpa using hp), by rw [he, e1]⟩) hnd.1
    exact ⟨by simp [mget, e, h1], by simp [mhas, h2], fun n => by simp [mset, e, h3], by simp [mdel, e, h4]⟩
end

theorem A2.snoc {α β : Type} {R : α → β → Prop} {l : List α} {m : List β} {a : α} {b : β} (h : A2 R l m) (hr : R a b) : A2 R (l ++ [a]) (m ++ [b]) := h.append ⟨hr, trivial⟩
theorem A2.modify {α β : Type} {R : α → β → Prop} (f : α → α) (g : β → β) : ∀ {l : List α} {m : List β} (j : Nat), A2 R l m → (∀ a b, l[j]? = some a → m[j]? = some b → R a b → R (f a) (g b)) → A2 R (l.modify j f) (m.modify j g)
  | [], [], j, _, _ => by cases j <;> trivial
  | _ :: _, _ :: _, 0, h, hr => ⟨hr _ _ rfl rfl h.1, h.2⟩
  | _ :: _, _ :: _, j + 1, h, hr => ⟨h.1, A2.modify f g j h.2 fun a b h1 h2 h3 => hr a b (by simpa using h1) (by simpa using h2) h3⟩
theorem A2.eraseIdx {α β : Type} {R : α → β → Prop} : ∀ {l : List α} {m : List β} (j : Nat), A2 R l m → A2 R (l.eraseIdx j) (m.eraseIdx j)
  | [], [], j, _ => by cases j <;> trivial
  | _ :: _, _ :: _, 0, h => h.2
  | _ :: _, _ :: _, j + 1, h => ⟨h.1, A2.eraseIdx j h.2⟩
theorem A2.get' {α β : Type} {R : α → β → Prop} : ∀ {l : List α} {m : List β}, A2 R l m → ∀ (i : Nat) (b : β), m[i]? = some b → ∃ a, l[i]? = some a ∧ R a b
  | a :: _, b :: _, h, 0, x, hx => ⟨a, rfl, by simp at hx; exact hx ▸ h.1⟩
  | _ :: _, _ :: _, h, i + 1, x, hx => by simpa using A2.get' h.2 i x (by simpa using hx)
  | [], [], _, i, x, hx => by simp at hx
theorem A2.mem {α β : Type} {R : α → β → Prop} {p : α → Prop} (hp : ∀ a b, R a b → p a) : ∀ {l : List α} {m : List β}, A2 R l m → ∀ a ∈ l, p a
  | [], [], _, a, ha => by cases ha
  | _ :: _, _ :: _, h, a, ha => by
    cases ha with
    | head => exact hp _ _ h.1
    | tail _ ha => exact A2.mem hp h.2 a ha
theorem A2.keys {α : Type} {R : Value × α → MapEntry → Prop} (hp : ∀ a b, R a b → b.key = a.1) : ∀ {l : List (Value × α)} {m : List MapEntry}, A2 R l m → l.map (·.1) = m.map (·.key)
  | [], [], _ => rfl
  | _ :: _, _ :: _, h => by simp only [List.map_cons]; rw [hp _ _ h.1, A2.keys hp h.2]
end Go.Fw
/- Maps: each operation runs well. -/
namespace Go.Fw
open Go Go.RowKit Go.MapKept

section
variable {P : Program} {G : Cfg} (ht : TOK P G.T) {X : Ctx2} {s : St} {a : Act} {w : World} {E : Env} {Qc : Exit → Act → World → Prop} {K : Eff → Prop}
include ht

theorem TOK.map {t k e : Nat} (h : (G.T t).k = .map k e) : P.underlying t = some (.map k e) := by
  have := (ht t (by rw [h]; simp)).1
  rw [h] at this
  unfold tkOf at this
  split at this <;> simp_all
theorem kindK_und {t kk : Nat} (h : kindK G t = some kk) : P.underlying t = some (descK kk) := by
  unfold kindK at h
  split at h
  · rename_i hk; cases h; exact ht.int hk
  · rename_i hk; cases h; exact ht.str hk
  · rename_i hk
    cases h
    have := (ht t (by rw [hk]; simp)).1
    rw [hk] at this
    unfold tkOf at this
    split at this <;> simp_all [descK]
  · cases h
omit ht in
theorem keyOf_sound (hs : Sim G.T X s a w E) {kk : Nat} {x : Operand} {k : Value} (h : keyOf kk (s.ev x) = some k) : a.eval x = k ∧ keyK kk k = true := by
  unfold keyOf at h
  split at h
  · rename_i k' he
    cases hq : keyK kk k' with
    | false => rw [hq] at h; cases h
    | true =>
      rw [hq] at h
      simp only [cond_true, Option.some.injEq] at h
      subst h
      have := hs.ev x
      rw [he] at this
      exact ⟨RA_val this, hq⟩
  · cases h
omit ht in
theorem decM_sound (hs : Sim G.T X s a w E) {isB : Bool} {x : Operand} {n : Int} (h : decM isB (s.ev x) = some n) : a.eval x = encM isB n := by
  unfold decM at h
  have hx := hs.ev x
  split at h
  · rename_i m he
    rw [he] at hx
    cases isB with
    | true => cases h
    | false =>
      simp only [cond_false, Option.some.injEq] at h
      subst h
      exact RA_val hx
  · rename_i b he
    rw [he] at hx
    cases isB with
    | false => cases h
    | true =>
      simp only [cond_true, Option.some.injEq] at h
      subst h
      rw [RA_val hx]
      cases b <;> rfl
  · cases h
omit ht in
theorem encM_one (isB : Bool) (n : Int) : (encM isB n).oneCell' = true := by cases isB <;> rfl
omit ht in
theorem mp_val (hs : Sim G.T X s a w E) {x : Operand} {r : Nat} (he : s.ev x = .w (.one (.mp r))) (hm : (∃ kk es, s.bs r = .mapb kk es) ∨ ∃ kk b m st, s.bs r = .mapi kk b m st) : a.eval x = .map (some (E.σ r)) := by
  have := (hs.ev x)
  rw [he] at this
  have := this.1
  simp only [RC] at this
  rcases hm with ⟨kk, es, h⟩ | ⟨kk, b, m, st, h⟩ <;> rw [h] at this <;> exact this

omit ht in
/-- A result without a value. -/
theorem fin_skip (hs : Sim G.T X s a w E) (o : Oper) {e : Eff} {w' : World} {E' : Env} (hrun : (execOp a.eval o).run P w = .ok .skip w') (hK : K e)
    (hsim : Sim G.T X (s.app o.dst e) (a.put o.dst undef) w' E') : o.upon P a (Nxt G X s o.dst K) Qc ((execOp a.eval o).run P w) := by
  rw [hrun]
  exact ⟨e, E', hK, hsim⟩

omit ht in
theorem heap_set_size {w : World} {r : Nat} {o : Obj} : (w.heap.setIfInBounds r o).size = w.heap.size := by simp

omit ht in
/-- A map is turned. -/
theorem map_step (hs : Sim G.T X s a w E) {r : Nat} {b' : Blk} (hold : (∃ kk es, s.bs r = .mapb kk es) ∨ ∃ kk b m st, s.bs r = .mapi kk b m st) (hkind : BExtAt s.bs E (upd s.bs r b') E r)
    (hm' : mblk (upd s.bs r b') E r = some (E.σ r) ∨ mblk (upd s.bs r b') E r = none) {es : Array MapEntry} {clock : Nat} {es' : Array MapEntry} {clock' : Nat} (hh : w.heap[E.σ r]? = some (.map es clock))
    (hrb : BExt s.bs E (upd s.bs r b') E → RB G.T (upd s.bs r b') { w with heap := w.heap.setIfInBounds (E.σ r) (.map es' clock') } E r b') (dst : Option Nat) (nx : Nat) {v : AV} {val : Value}
    (hv : RA (upd s.bs r b') { w with heap := w.heap.setIfInBounds (E.σ r) (.map es' clock') } E v val) :
    Sim G.T X (s.app dst ⟨v, [(r, b')], nx⟩) (a.put dst val) { w with heap := w.heap.setIfInBounds (E.σ r) (.map es' clock') } E := by
  have hlt : E.σ r < w.heap.size := (Array.getElem?_eq_some_iff.1 hh).1
  have hmr : mblk s.bs E r = some (E.σ r) := by
    rcases hold with ⟨kk, es, h⟩ | ⟨kk, b, m, st, h⟩ <;> simp [mblk, h]
  refine one_step (b' := b') (E' := E) (w' := { w with heap := w.heap.setIfInBounds (E.σ r) (.map es' clock') }) hs (fun _ _ => ⟨rfl, rfl⟩) rfl hkind rfl rfl rfl (by simp) (fun k _ hne => (heap_set hh).2 k fun e => hne (by rw [e]; exact hmr.symm)) hrb (fun b hb => ?_) dst nx hv
  rcases hm' with h | h
  · rw [h] at hb; cases hb
    exact ⟨.inl hmr.symm, by simpa using hlt⟩
  · rw [h] at hb; cases hb

omit ht in
theorem A2.nodup {α : Type} {R : Value × α → MapEntry → Prop} (hp : ∀ a b, R a b → b.key = a.1) {l : List (Value × α)} {m : Array MapEntry} {clock : Nat} (h : A2 R l m.toList) (hst : Stamped m clock) : (l.map (·.1)).Nodup := by
  rw [A2.keys hp h]
  exact hst.2.2

/-- What is found in a map. -/
theorem map_found {kk kt : Nat} (hkk : kindK G kt = some kk) {k : Value} (hk : keyK kk k = true) {isB : Bool} {m : List (Value × Int)} {es : Array MapEntry} {clock : Nat}
    (hA : A2 (fun (p : Value × Int) (e : MapEntry) => e.key = p.1 ∧ keyK kk p.1 = true ∧ e.val = encM isB p.2) m es.toList) (hst : Stamped es clock) (w : World) :
    (Instr.checkKey es.isEmpty 10000 kt k).run P w = .ok () w ∧ (Instr.checkKey false 10000 kt k).run P w = .ok () w ∧
    ((mget m k = 0 ∧ mhas m k = false ∧ (∀ n, mset m k n = m ++ [(k, n)]) ∧ mdel m k = m ∧ (Instr.findKey kt k es.toList).run P w = .ok none w ∧ ∀ x ∈ es.toList, x.key ≠ k) ∨
     ∃ j e p, m[j]? = some p ∧ es[j]? = some e ∧ e.key = k ∧ p.1 = k ∧ e.val = encM isB p.2 ∧ mget m k = p.2 ∧ mhas m k = true ∧ (∀ n, mset m k n = m.modify j fun p => (p.1, n)) ∧ mdel m k = m.eraseIdx j ∧
       (Instr.findKey kt k es.toList).run P w = .ok (some (j, e.val)) w) := by
  have hd := kindK_und ht hkk
  have hk' := keyK_isKey hk
  refine ⟨run_checkKey hd hk' _ 9999, run_checkKey hd hk' _ 9999, ?_⟩
  have hks : ∀ x ∈ es.toList, IsKey (descK kk) x.key := hA.all_right (p := fun x => IsKey (descK kk) x.key) fun p e h => by rw [h.1]; exact keyK_isKey h.2.1
  have hkm : ∀ p ∈ m, keyK kk p.1 = true := hA.mem (p := fun p => keyK kk p.1 = true) fun p e h => h.2.1
  have hnd : (m.map (·.1)).Nodup := A2.nodup (fun p e h => h.1) hA hst
  rcases findNow_spec hk' es.toList 0 hks with ⟨h1, h2⟩ | ⟨j, e, h1, h2, h3⟩
  · have hn : ∀ p ∈ m, p.1 ≠ k := by
      intro p hp e
      have : p.1 ∈ es.toList.map (·.key) := by rw [← A2.keys (fun p e h => h.1) hA]; exact List.mem_map.2 ⟨p, hp, rfl⟩
      obtain ⟨x, hx, hxe⟩ := List.mem_map.1 this
      exact h2 x hx (hxe.trans e)
    obtain ⟨g1, g2, g3, g4⟩ := m_none hk hkm hn
    exact .inl ⟨g1, g2, g3, g4, run_findKey hd h1, h2⟩
  · obtain ⟨p, hp, hR⟩ := hA.get' j e h2
    have hpk : p.1 = k := by rw [← hR.1]; exact h3
    obtain ⟨g1, g2, g3, g4⟩ := m_some hk hkm hnd hp hpk
    exact .inr ⟨j, e, p, hp, by simpa using h2, h3, hpk, hR.2.2, g1, g2, g3, g4, by rw [Nat.zero_add] at h1; exact run_findKey hd h1⟩

omit ht in
theorem modify_toList {α : Type} (es : Array α) (j : Nat) (f : α → α) : (es.modify j f).toList = es.toList.modify j f := by
  apply List.ext_getElem?
  intro i
  rw [Array.getElem?_toList, Array.getElem?_modify, List.getElem?_modify]
  by_cases h : j = i <;> simp [h]
omit ht in
theorem erase_toList {α : Type} (es : Array α) (j : Nat) : (es.eraseIdxIfInBounds j).toList = es.toList.eraseIdx j := by
  unfold Array.eraseIdxIfInBounds
  split
  · simp
  · rename_i h
    rw [List.eraseIdx_of_length_le (by simpa using h)]

/-- An element is laid into a map. -/
theorem mset_sound (hs : Sim G.T X s a w E) {r kk kt et mt : Nat} {isB : Bool} {m : List (Value × Int)} {st : Option (Value × Int)} (hb : s.bs r = .mapi kk isB m st) (hmt : (G.T mt).k = .map kt et) (hkk : kindK G kt = some kk)
    {k : Value} (hk : keyK kk k = true) (n : Int) (dst : Option Nat) (nx : Nat) (u : Value) :
    ∃ w', (Instr.mapUpdate mt (.map (some (E.σ r))) k (encM isB n)).run P w = .ok () w' ∧ Sim G.T X (s.app dst ⟨.junk, [(r, .mapi kk isB (mset m k n) none)], nx⟩) (a.put dst u) w' E := by
  have hB := hs.bl.blk r
  rw [hb] at hB
  obtain ⟨es, clock, hh, hA, hst, _⟩ := hB
  have hm := ht.map hmt
  obtain ⟨_, c2, hf⟩ := map_found ht hkk hk hA hst w
  have hk' := keyK_isKey hk
  have go : ∀ (es' : Array MapEntry) (clock' : Nat), A2 (fun (p : Value × Int) (e : MapEntry) => e.key = p.1 ∧ keyK kk p.1 = true ∧ e.val = encM isB p.2) (mset m k n) es'.toList → Stamped es' clock' →
      Sim G.T X (s.app dst ⟨.junk, [(r, .mapi kk isB (mset m k n) none)], nx⟩) (a.put dst u) { w with heap := w.heap.setIfInBounds (E.σ r) (.map es' clock') } E := by
    intro es' clock' hA' hst'
    refine map_step hs (.inr ⟨kk, isB, m, st, hb⟩) ?_ (.inl (by simp [mblk, upd_same])) hh (fun _ => ?_) dst nx (RA_junk _ _)
    · intro _; rw [upd_same]; exact ⟨⟨kk, isB, m, st, hb⟩, rfl⟩
    · exact ⟨es', clock', (heap_set hh).1, hA', hst', fun k b h => by cases h⟩
  rcases hf with ⟨_, _, h3, _, h5, h6⟩ | ⟨j, e, p, hp, hj, h3, hpk, hval, _, _, h7, _, h9⟩
  · refine ⟨_, ?_, go (es.push { key := k, val := encM isB n, born := clock }) (clock + 1) ?_ (stamped_push hst h6)⟩
    · simp [Instr.mapUpdate, run_underlying hm, MapKept.run_getObj_map hh, c2, h5, run_setObj_map _ hh, Result.andThen]
    · rw [h3, Array.toList_push]; exact hA.snoc ⟨rfl, hk, rfl⟩
  · refine ⟨_, ?_, go (es.modify j fun e => { e with key := k, val := encM isB n }) clock ?_ ?_⟩
    · simp [Instr.mapUpdate, run_underlying hm, MapKept.run_getObj_map hh, c2, h9, hj, h3, run_keyThatStays hk', run_setObj_map _ hh, Result.andThen]
    · rw [h7, modify_toList]
      refine hA.modify _ _ j fun a b ha hb' hR => ⟨?_, hR.2.1, rfl⟩
      rw [hp] at ha; cases ha
      exact hpk.symm
    · exact stamped_modify hst _ _ (fun _ _ => rfl) (fun e' _ he' => by rw [hj] at he'; cases he'; exact h3.symm)
end
end Go.Fw
