/- A part of the proof of Rows.ShopBackSaid: what ShopBack answers, whatever the arguments; it stands under no condition. -/
import Derived.Test.YtdehaflkiobnlaaGreatBack20
import Derived.Test.YtdehaflkiobnlaaGreatBack18
set_option linter.unusedVariables false
set_option linter.unusedSimpArgs false
set_option linter.unusedSectionVars false
set_option linter.deprecated false
namespace Go.Fw
open Go Go.ChangeShapes Go.WideShapes Go.ChangeAt Go.RowKit
open Go.ChangeMaps (open_string)
def Cmd.val (c : Cmd) : Value := .agg c.v.toArray
theorem cells38 : tP.cellsOf 38 = 10 := by kernel_rfl
theorem cells3 : tP.cellsOf 3 = 1 := by kernel_rfl
theorem cells9 : tP.cellsOf 9 = 1 := by kernel_rfl
theorem cells4 : tP.cellsOf 4 = 1 := by kernel_rfl
theorem ten' {α : Type} : ∀ {l : List α}, l.length = 10 → ∃ a b c d e f g h i j, l = [a, b, c, d, e, f, g, h, i, j]
  | [a, b, c, d, e, f, g, h, i, j], _ => ⟨a, b, c, d, e, f, g, h, i, j, rfl⟩
set_option maxRecDepth 100000 in
theorem open_cmd {H : Type} {enc : TypeId × Value → H} {W : World} {base : Nat} {sp : Nat → Bool} {held : Bool} {r : Reach} {b0 : Nat} {v : Value} {d : DataW H} {p : List MemPlace} (hval : Value.okWide tP W r b0 38 v)
    (h : DataW.Trod enc tP W base sp held 38 v d p) : ∃ c : Cmd, v = c.val := by
  obtain ⟨cs, rfl, hsz⟩ := okWide_struct Go.Proofs.Tryz.underlying38 hval
  obtain ⟨fuel, hf⟩ := h
  obtain ⟨xs, n, _, _, _, hxl, hfs⟩ := DataW.trod_struct Go.Proofs.Tryz.underlying38 hf
  rw [cells38] at hsz
  obtain ⟨a0, a1, a2, a3, a4, a5, a6, a7, a8, a9, hl⟩ := ten' (l := cs.toList) (by simpa using hsz)
  have e0 : (Value.agg cs).cells.toList = [a0, a1, a2, a3, a4, a5, a6, a7, a8, a9] := hl
  rw [e0] at hfs
  have i0 : DataW.trod enc tP W base sp held n 3 (([a0, a1, a2, a3, a4, a5, a6, a7, a8, a9].drop 0).take (tP.cellsOf 3)) = xs[0]? := hfs 0 _ rfl
  rw [cells3] at i0
  have i1 : DataW.trod enc tP W base sp held n 9 (([a0, a1, a2, a3, a4, a5, a6, a7, a8, a9].drop 1).take (tP.cellsOf 9)) = xs[1]? := hfs 1 _ rfl
  rw [cells9] at i1
  have i2 : DataW.trod enc tP W base sp held n 9 (([a0, a1, a2, a3, a4, a5, a6, a7, a8, a9].drop 2).take (tP.cellsOf 9)) = xs[2]? := hfs 2 _ rfl
  rw [cells9] at i2
  have i3 : DataW.trod enc tP W base sp held n 3 (([a0, a1, a2, a3, a4, a5, a6, a7, a8, a9].drop 3).take (tP.cellsOf 3)) = xs[3]? := hfs 3 _ rfl
  rw [cells3] at i3
  have i4 : DataW.trod enc tP W base sp held n 3 (([a0, a1, a2, a3, a4, a5, a6, a7, a8, a9].drop 4).take (tP.cellsOf 3)) = xs[4]? := hfs 4 _ rfl
  rw [cells3] at i4
  have i5 : DataW.trod enc tP W base sp held n 3 (([a0, a1, a2, a3, a4, a5, a6, a7, a8, a9].drop 5).take (tP.cellsOf 3)) = xs[5]? := hfs 5 _ rfl
  rw [cells3] at i5
  have i6 : DataW.trod enc tP W base sp held n 3 (([a0, a1, a2, a3, a4, a5, a6, a7, a8, a9].drop 6).take (tP.cellsOf 3)) = xs[6]? := hfs 6 _ rfl
  rw [cells3] at i6
  have i7 : DataW.trod enc tP W base sp held n 3 (([a0, a1, a2, a3, a4, a5, a6, a7, a8, a9].drop 7).take (tP.cellsOf 3)) = xs[7]? := hfs 7 _ rfl
  rw [cells3] at i7
  have i8 : DataW.trod enc tP W base sp held n 3 (([a0, a1, a2, a3, a4, a5, a6, a7, a8, a9].drop 8).take (tP.cellsOf 3)) = xs[8]? := hfs 8 _ rfl
  rw [cells3] at i8
  have i9 : DataW.trod enc tP W base sp held n 4 (([a0, a1, a2, a3, a4, a5, a6, a7, a8, a9].drop 9).take (tP.cellsOf 4)) = xs[9]? := hfs 9 _ rfl
  rw [cells4] at i9
  have hx : ∀ {α : Type} {o : Option α} {l : List α} {i : Nat}, o = l[i]? → i < l.length → ∃ x, o = some x := fun {α o l i} h hi => ⟨l[i], by rw [h]; simp [hi]⟩
  have hxl : xs.length = 10 := hxl
  obtain ⟨y0, j0⟩ := hx i0 (by omega)
  obtain ⟨y1, j1⟩ := hx i1 (by omega)
  obtain ⟨y2, j2⟩ := hx i2 (by omega)
  obtain ⟨y3, j3⟩ := hx i3 (by omega)
  obtain ⟨y4, j4⟩ := hx i4 (by omega)
  obtain ⟨y5, j5⟩ := hx i5 (by omega)
  obtain ⟨y6, j6⟩ := hx i6 (by omega)
  obtain ⟨y7, j7⟩ := hx i7 (by omega)
  obtain ⟨y8, j8⟩ := hx i8 (by omega)
  obtain ⟨y9, j9⟩ := hx i9 (by omega)
  obtain ⟨n0, k0, _⟩ := DataW.trod_int Go.Proofs.Tryz.underlying3 j0
  obtain ⟨n1, k1, _⟩ := DataW.trod_string Go.Proofs.Tryz.underlying9 j1
  obtain ⟨n2, k2, _⟩ := DataW.trod_string Go.Proofs.Tryz.underlying9 j2
  obtain ⟨n3, k3, _⟩ := DataW.trod_int Go.Proofs.Tryz.underlying3 j3
  obtain ⟨n4, k4, _⟩ := DataW.trod_int Go.Proofs.Tryz.underlying3 j4
  obtain ⟨n5, k5, _⟩ := DataW.trod_int Go.Proofs.Tryz.underlying3 j5
  obtain ⟨n6, k6, _⟩ := DataW.trod_int Go.Proofs.Tryz.underlying3 j6
  obtain ⟨n7, k7, _⟩ := DataW.trod_int Go.Proofs.Tryz.underlying3 j7
  obtain ⟨n8, k8, _⟩ := DataW.trod_int Go.Proofs.Tryz.underlying3 j8
  obtain ⟨n9, k9, _⟩ := DataW.trod_bool Go.Proofs.Tryz.underlying4 j9
  refine ⟨⟨n0, n1.data.toList, n2.data.toList, n3, n4, n5, n6, n7, n8, n9⟩, ?_⟩
  have e : cs = [a0, a1, a2, a3, a4, a5, a6, a7, a8, a9].toArray := by rw [← hl]
  rw [e]
  have k0 := (List.cons.inj k0).1
  have k1 := (List.cons.inj k1).1
  have k2 := (List.cons.inj k2).1
  have k3 := (List.cons.inj k3).1
  have k4 := (List.cons.inj k4).1
  have k5 := (List.cons.inj k5).1
  have k6 := (List.cons.inj k6).1
  have k7 := (List.cons.inj k7).1
  have k8 := (List.cons.inj k8).1
  have k9 := (List.cons.inj k9).1
  rw [k0, k1, k2, k3, k4, k5, k6, k7, k8, k9]
  rfl
theorem blocks0 (w : World) : Blocks T (fun _ => .none) w ⟨fun _ => 0, fun _ => .tuple #[], fun _ => False⟩ :=
  ⟨fun _ => trivial, fun r r' b h => by simp [mblk] at h, fun r b h => by simp [mblk] at h⟩
theorem RA_cmd (c : Cmd) (w : World) (E : Env) : RA (fun _ => .none) w E c.av c.val :=
  ⟨_, rfl, ⟨rfl, rfl⟩, ⟨rfl, rfl⟩, ⟨rfl, rfl⟩, ⟨rfl, rfl⟩, ⟨rfl, rfl⟩, ⟨rfl, rfl⟩, ⟨rfl, rfl⟩, ⟨rfl, rfl⟩, ⟨rfl, rfl⟩, ⟨rfl, rfl⟩, trivial⟩
theorem walk7 (c d : Cmd) (s : ByteArray) (w : World) :
    Calls tP 7 #[c.val, d.val, .string s] w fun e w' => e = .returned (.bool true) ∧ w'.os = w.os ∧ w'.output = w.output ∧ ∀ b, b < w.heap.size → w'.heap[b]? = w.heap[b]? := by
  have h := sound1 (Back7 alive1 c d s.data.toList)
  refine (h.2 w ⟨fun _ => 0, fun _ => .tuple #[], fun _ => False⟩ #[c.val, d.val, .string s] ?_ ?_ (by simp)).mono ?_
  · rw [bsF_nil]
    exact ⟨RA_cmd _ _ _, RA_cmd _ _ _, ⟨rfl, rfl⟩, trivial⟩
  · rw [bsF_nil]; exact blocks0 w
  · rintro e w' ⟨E', hf, v', rfl, hv', _⟩
    rw [bsF_nil] at hf hv'
    exact ⟨by rw [RA_val hv'], hf.os, hf.output, fun b hb => hf.keep b hb (by simp [mblk])⟩
end Go.Fw
