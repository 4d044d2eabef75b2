/- A part of the proof of Rows.ShopBackSaid: what ShopBack answers, whatever the arguments; it stands under no condition. -/
import Derived.Test.YtdehaflkiobnlaaGreatBack19
import Derived.Test.YtdehaflkiobnlaaGreatRows
import Derived.WalkKit
import Derived.ProofKit
import Derived.OpenShut
import Derived.JoinedCond
import Derived.ReadAgain
import Derived.ChangeReads
set_option linter.unusedVariables false
set_option linter.unusedSimpArgs false
set_option linter.unusedSectionVars false
set_option linter.deprecated false
namespace Go.Fw
open Go Go.ChangeShapes Go.WideShapes Go.ChangeAt Go.RowKit
/-- A reading in a world whose old blocks are as they were. -/
theorem trodAll_carry {H : Type} {enc : TypeId × Value → H} {P : Program} {w w' : World} {base : Nat} {sp : Nat → Bool} {held : Bool} : ∀ {ts : List TypeId} {vs : List Value} {ds : List (DataW H)} {ps : List MemPlace},
    DataW.TrodAll enc P w base sp held ts vs ds ps → (∀ p ∈ ps, w.sameAt w' p) → DataW.TrodAll enc P w' base sp held ts vs ds ps
  | [], vs, ds, ps, h, _ => by
    obtain ⟨rfl, rfl, rfl⟩ := trodAll_nil h
    exact h
  | t :: ts, vs, ds, ps, h, hs => by
    obtain ⟨v, vs1, d, ds1, a, b, rfl, rfl, rfl, ⟨n, h1⟩, h2⟩ := trodAll_cons h
    exact ⟨a, b, ⟨n, DataW.trod_carry n _ _ _ h1 fun p hp => hs p (by simp [show p ∈ a from hp])⟩, trodAll_carry h2 fun p hp => hs p (by simp [hp]), rfl⟩
theorem sameAt_of {w w' : World} (h : ∀ b, b < w.heap.size → w'.heap[b]? = w.heap[b]?) (p : MemPlace) (hp : p.block < w.heap.size) : w.sameAt w' p := by
  cases p with
  | cell b off => exact World.cell?_of_block (h b hp)
  | map b => exact h b hp
theorem keptBut_of {w w' : World} (hos : w'.os = w.os) (hout : w'.output = w.output) (h : ∀ b, b < w.heap.size → w'.heap[b]? = w.heap[b]?) (may : MemPlace → Prop) : w.keptBut w' may := by
  refine ⟨hos, hout, fun i hi => ?_⟩
  rw [h i hi]
  cases w.heap[i]? with
  | none => rfl
  | some o => cases o <;> first | exact ⟨rfl, rfl, rfl, fun _ _ => rfl⟩ | exact .inr ⟨rfl, rfl⟩ | rfl
set_option maxRecDepth 100000 in
/-- What a law that returns true, and leaves all that was as it was, owes. -/
theorem post_true {H : Type} {enc : TypeId × Value → H} {f : Func} {s : ChangeSpec} {apart fresh handsOn again : Bool} {W W' : World} {args : Array Value} {ds gs : List (DataW H)} {before : List MemPlace}
    (hv : s.vars = []) (hrt : f.resultTypes = #[4]) (hpt : ∀ t ∈ f.params.toList, t < tP.types.size)
    (hs : s.fn H (ds ++ gs) = { results := [.lit (.bool true)], args := ds })
    (hW : DataW.Whole enc tP f.params.toList s.vars apart W args.toList ds gs before)
    (hos : W'.os = W.os) (hout : W'.output = W.output) (hh : ∀ b, b < W.heap.size → W'.heap[b]? = W.heap[b]?) :
    s.post enc tP f apart fresh handsOn again W args (.bool true) W' := by
  have hold : ∀ p ∈ before, p.block < W.heap.size := fun p hp => hW.lt p hp
  have hres : ∀ (b : Nat) (sp : Nat → Bool) (hd : Bool), DataW.TrodAll enc tP W' b sp hd f.resultTypes.toList ((Value.bool true).resultList f.resultTypes.size) (s.fn H (ds ++ gs)).results [] := by
    intro b sp hd
    rw [hs, hrt]
    exact trodAll_cons_mk (shut_bool Go.Proofs.Tryz.underlying4 true) trodAll_mk0
  have hW0 := hW
  obtain ⟨p, q, hA, hV, hpq, hz, hn⟩ := hW
  rw [hv] at hV
  obtain ⟨hgs, hq⟩ := trodVars_none hV
  subst hgs; subst hq
  rw [List.append_nil] at hpq
  subst hpq
  have hargs : ∀ sp : Nat → Bool, (∀ x ∈ before, sp x.block = true) → DataW.TrodAll enc tP W' 0 sp true f.params.toList args.toList (s.fn H (ds ++ [])).args before := by
    intro sp hsp
    rw [hs]
    exact trodAll_carry (DataW.TrodAll.respare kids full hpt hA hsp) fun x hx => sameAt_of hh x (hold x hx)
  have hvars : ∀ sp : Nat → Bool, DataW.TrodVars enc tP W' sp s.vars (s.fn H (ds ++ [])).vars [] := by
    intro sp
    rw [hv, hs]
    rfl
  refine ⟨ds, [], before, [], before, [], hW0, hres _ _ _, hargs _ (fun x hx => by simpa using hold x hx), hvars _, keptBut_of hos hout hh _, fun _ => ?_⟩
  refine ⟨fun j t r h1 h2 => ?_, _, _, ([] ++ before) ++ [], ⟨[] ++ before, [], trodAll_append (hargs _ (fun _ _ => rfl)) (hres _ _ _), hvars _, rfl, ?_, ?_⟩, ?_⟩
  · rw [hrt] at h1 h2
    match j, h1, h2 with
    | 0, h1, h2 =>
      obtain rfl : (4 : Nat) = t := Option.some.inj h1
      obtain rfl : Value.bool true = r := Option.some.inj h2
      exact okWide_bool_mk Go.Proofs.Tryz.underlying4 _
    | j + 1, h1, _ => exact nomatch h1
  · intro b off hp
    have hp' : MemPlace.cell b off ∈ before := by simpa using hp
    have := hz b off hp'
    rw [← this]
    simp only [World.frozen?, hh b (hold _ hp')]
  · intro ha
    simpa using hn ha
  · intro x hx _
    simpa using hx
end Go.Fw
