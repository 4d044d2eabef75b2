/- A part of the proof of Rows.ShopTextsSaid: what the document's reading and writing of commands answers, and that the shop's is the same; it stands under no condition. -/
import Derived.Test.YtdehaflkiobnlaaGreatBack21
import Derived.Test.YtdehaflkiobnlaaGreatText11
import Derived.Test.YtdehaflkiobnlaaGreatText01
set_option linter.unusedVariables false
set_option linter.unusedSimpArgs false
set_option linter.unusedSectionVars false
set_option linter.deprecated false
namespace Go.Fw
open Go Go.ChangeShapes Go.WideShapes Go.ChangeAt Go.RowKit
theorem walk6 (c : Cmd) (s : ByteArray) (w : World) :
    Calls tP 6 #[c.val, .string s] w fun e w' => e = .returned (.bool true) ∧ w'.os = w.os ∧ w'.output = w.output ∧ ∀ b, b < w.heap.size → w'.heap[b]? = w.heap[b]? := by
  have h := sound1 (Texts6 alive1 c s.data.toList)
  refine (h.2 w ⟨fun _ => 0, fun _ => .tuple #[], fun _ => False⟩ #[c.val, .string s] ?_ ?_ (by simp)).mono ?_
  · rw [bsF_nil]
    exact ⟨RA_cmd _ _ _, ⟨rfl, rfl⟩, trivial⟩
  · rw [bsF_nil]; exact blocks0 w
  · rintro e w' ⟨E', hf, v', rfl, hv', _⟩
    rw [bsF_nil] at hf hv'
    exact ⟨by rw [RA_val hv'], hf.os, hf.output, fun b hb => hf.keep b hb (by simp [mblk])⟩
end Go.Fw
namespace Go.Proofs.YtdehaflkiobnlaaGreat
open Go.ChangeShapes Go.WideShapes Go.ChangeAt Go.RowKit
open Go.ChangeMaps (open_string)
open Go.Fw
theorem own6 : ownKnob Tryz.prog.godebug = none := by kernel_rfl
set_option maxRecDepth 100000 in
theorem contract6 (H : Type) (enc : TypeId × Value → H) (W : World) (base : Nat) (args : Array Value) (ds gs : List (DataW H)) (before : List MemPlace)
    (hval : ∀ (j : Nat) t v, Tryz.f6.params[j]? = some t → args[j]? = some v → Value.okWide Tryz.prog W .any base t v)
    (hW : DataW.Whole enc Tryz.prog Tryz.f6.params.toList Rows.shopTextsSpec.vars false W args.toList ds gs before) :
    Calls Tryz.prog 6 args W fun e W' => ∃ v, e = .returned v ∧ Rows.shopTextsSpec.post enc Tryz.prog Tryz.f6 false true false false W args v W' := by
  have hW' := hW
  obtain ⟨p, q, hA0, hV, rfl, hfz, hnd⟩ := hW
  have hA : DataW.TrodAll enc Tryz.prog W 0 (fun _ => true) true Tryz.f6.params.toList args.toList ds p := hA0
  rw [Tryz.params6] at hA hval
  obtain ⟨v0, vs0, d0, ds0, p0, q0, hargs, rfl, rfl, h0, r0⟩ := trodAll_cons hA
  obtain ⟨v1, vs1, d1, ds1, p1, q1, rfl, rfl, rfl, h1, r1⟩ := trodAll_cons r0
  obtain ⟨rfl, rfl, rfl⟩ := trodAll_nil r1
  obtain rfl : args = #[v0, v1] := Array.toList_inj.1 hargs
  obtain ⟨rfl, rfl⟩ := trodVars_none hV
  obtain ⟨c, rfl⟩ := open_cmd (hval 0 38 v0 rfl rfl) h0
  obtain ⟨s, rfl, rfl, rfl, _⟩ := open_string Tryz.underlying9 (hval 1 9 v1 rfl rfl) h1
  refine (walk6 c s W).mono fun e W' ⟨he, ho, hu, hh⟩ => ?_
  subst he
  exact ⟨_, rfl, post_true rfl (by kernel_rfl) (by rw [Tryz.params6]; decide) rfl hW' ho hu hh⟩
set_option maxRecDepth 100000 in
theorem lifted6 (os : Os) (started : os.Started) (H : Type) (enc : TypeId × Value → H) :
    ReturnsInHanded {} Tryz.checked os 6 .any (Rows.shopTextsSpec.pre6 enc Tryz.prog Tryz.f6 Rows.shopTextsRow.domain false) (Rows.shopTextsSpec.post enc Tryz.prog Tryz.f6 false true false false) := by
  refine returnsInHanded_of_change (C := Tryz.checked) own6 started (by kernel_rfl) Tryz.func6
    (ChangeSpec.witness6 (enc := enc) (C := Tryz.checked) false ⟨#[], #[.agg #[.int .i64 0, .string ⟨#[]⟩, .string ⟨#[]⟩, .int .i64 0, .int .i64 0, .int .i64 0, .int .i64 0, .int .i64 0, .int .i64 0, .bool false], .string ⟨#[]⟩], []⟩ 8 (by kernel_rfl) (by kernel_rfl) (by kernel_rfl) (by kernel_rfl)) ?_
  intro W base args ds gs before hval hW _ _
  exact contract6 H enc W base args ds gs before hval hW
theorem shopTexts : Rows.ShopTextsSaid :=
  OpenClaim.holds_of_wide 6 Tryz.f6 rfl rfl rfl rfl rfl rfl rfl ⟨rfl, rfl, rfl, rfl, rfl⟩ rfl rfl rfl rfl rfl (by kernel_rfl) Tryz.func6 closed6
    (of_decide_eq_true (by kernel_rfl)) (by unfold Func.isWrapper; first | (rw [if_pos (by decide +kernel)]; kernel_rfl) | (rw [if_neg (by decide +kernel)]; exact ⟨rfl, rfl⟩))
    (fun os started H enc _ => lifted6 os started H enc)
end Go.Proofs.YtdehaflkiobnlaaGreat
