/- A part of the proof of Rows.ShopBackSaid: what ShopBack answers, whatever the arguments; it stands under no condition. -/
import Derived.Test.YtdehaflkiobnlaaGreatBack11
import Derived.WalkKit
import Derived.Lib.Builder
import Derived.Laws.Externs
set_option linter.unusedVariables false
set_option linter.unusedSimpArgs false
set_option linter.unusedSectionVars false
set_option linter.deprecated false
namespace Go.Fw
open Go Go.Proofs.Tryz Go.RowKit
theorem bu319 : prog.underlying 319 = some (.pointer 321) := by kernel_rfl
theorem bu531 : prog.underlying 531 = some .unsafePointer := by kernel_rfl
theorem bi321 : ∃ j, prog.info? 321 = some j ∧ j.size ≠ 0 := by
  have h : (prog.info? 321).map (fun j => decide (j.size ≠ 0)) = some true := by kernel_rfl
  obtain ⟨j, h1, h2⟩ := Option.map_eq_some_iff.1 h
  exact ⟨j, h1, by simpa using h2⟩
theorem bl321 : liesAt prog prog.depth 321 (2 / prog.cellsOf 321) 0 321 1 = true := by kernel_rfl
set_option maxHeartbeats 1000000 in
set_option maxRecDepth 100000 in
theorem used378 (b : Nat) (w : World) (h0 : w.cell? ⟨b, 0, none⟩ = some (.pointer (some ⟨b, 0, none⟩))) :
    Calls prog 378 #[.pointer (some ⟨b, 0, none⟩)] w fun e w' => e = .returned (.tuple #[]) ∧ w' = w := by
  obtain ⟨j, hj, hjs⟩ := bi321
  go_enter func378, ntmps378
  go_wp2
  rw [Lib.run_neq_ptr_same w _ bu319 hj]
  go_wp2
  go_end0
  exact ⟨rfl, rfl⟩
set_option maxHeartbeats 1000000 in
set_option maxRecDepth 100000 in
theorem fresh378 (b : Nat) (w : World) (h0 : w.cell? ⟨b, 0, none⟩ = some (.pointer none)) (hsh : w.shape? b = some (321, 2)) (hfz : w.frozen? ⟨b, 0, none⟩ = false) :
    Calls prog 378 #[.pointer (some ⟨b, 0, none⟩)] w fun e w' => e = .returned (.tuple #[]) ∧ w' = w.setCell ⟨b, 0, none⟩ (.pointer (some ⟨b, 0, none⟩)) := by
  obtain ⟨j, hj, hjs⟩ := bi321
  go_enter func378, ntmps378
  go_wp2
  rw [Lib.run_to_unsafe w ⟨b, 0, none⟩ bu319 bu531 hj hjs hsh (Nat.zero_lt_succ 1)]
  simp only [Result.andThen]
  rw [Oper.upon_value]
  go_wp2
  rw [run_callFunc_extern func484 (by kernel_rfl) (by kernel_rfl) (by kernel_rfl) (e := Extern.AbiNoEscape.same) (by kernel_rfl)]
  rw [Lib.run_noEscape]
  simp only [Result.andThen]
  rw [Oper.upon_value]
  go_wp2
  rw [Lib.run_from_unsafe w ⟨b, 0, none⟩ bu531 bu319 hj hsh bl321]
  simp only [Result.andThen]
  rw [Oper.upon_value]
  go_wp2
  go_end0
  exact ⟨rfl, rfl⟩
end Go.Fw
