/- A part of the proof of Rows.ShopBackSaid: what ShopBack answers, whatever the arguments; it stands under no condition. -/
import Derived.Test.YtdehaflkiobnlaaGreatBack09
import Derived.Test.YtdehaflkiobnlaaGreatBack10
import Derived.KernelRfl
import Derived.Laws.Externs
import GoSem.Extern.SlicesOverlaps
set_option linter.unusedVariables false
set_option linter.unusedSimpArgs false
set_option linter.unusedSectionVars false
set_option linter.deprecated false
namespace Go.Fw
open Go
def tk1 (P : Program) (T : Nat → TI) (t : Nat) : TK := match (T t).k with | .other => .other | _ => tkOf P t
def tk2 (P : Program) (T : Nat → TI) (t : Nat) : Option (Nat × Nat × Option Value) := match (T t).k with | .other => none | _ => (P.info? t).map (fun i => (i.size, i.bytes, i.zero))
def tk3 (T : Nat → TI) (t : Nat) : Option (Nat × Nat × Option Value) := match (T t).k with | .other => none | _ => some ((T t).size, (T t).bytes, some (T t).zero)
def tk4 (T : Nat → TI) (t : Nat) : Bool := match (T t).k with | .other => true | _ => cellsOk (T t).zero.cells.toList && Nat.beq (T t).zero.cells.toList.length (T t).size
theorem f1 : (List.range 656).map (tk1 Pr T) = (List.range 656).map fun t => (T t).k := by kernel_rfl
theorem f2 : (List.range 656).map (tk2 Pr T) = (List.range 656).map (tk3 T) := by kernel_rfl
theorem f4 : (List.range 656).all (tk4 T) = true := by kernel_rfl
theorem T_out {t : Nat} (h : 656 ≤ t) : (T t).k = .other ∧ (T t).eq = false ∧ (T t).ov = 0 := by
  have h1 : ∀ n, 41 ≤ n → tbl.getD n [] = [] := fun n hn => by
    have hl : tbl.length ≤ 41 := Nat.le_of_ble_eq_true (by kernel_rfl)
    rw [List.getD_eq_getElem?_getD, List.getElem?_eq_none (by omega)]; rfl
  have h2 : 41 ≤ t / 16 := by omega
  have e : T0 t = ⟨.other, 0, 0, .tuple #[], false, 0⟩ := by
    show (tbl.getD (t / 16) []).getD (t % 16) _ = _
    rw [h1 _ h2]
    rfl
  refine ⟨by simp only [T, e], by simp only [T, e], ?_⟩
  simp only [T, ovTab]
  have : ∀ k, k < 656 → Nat.beq t k = false := fun k hk => by
    cases hq : Nat.beq t k
    · rfl
    · have := Nat.eq_of_beq_eq_true hq; omega
  rw [this 28 (by omega), this 27 (by omega), this 24 (by omega), this 23 (by omega), this 30 (by omega)]
  rfl
theorem T_other {t : Nat} (h : 656 ≤ t) : (T t).k = .other := (T_out h).1
def eqAll (P : Program) (T : Nat → TI) (t : Nat) : Bool :=
  !(T t).eq || (eqChk P T 5 t && isSt T t && shapeVs (T t).zero.cells.toList (shp P T 5 t) && !P.eqGuardType P.depth t)
theorem f5 : (List.range 656).all (eqAll Pr T) = true := by kernel_rfl
theorem tb : TB Pr T := by
  have hlt : ∀ t, (T t).k ≠ .other → t < 656 := fun t hk => by
    rcases Nat.lt_or_ge t 656 with h | h
    · exact h
    · exact absurd (T_other h) hk
  refine ⟨fun t hk => ?_, fun t hk => ?_⟩
  · have g1 := congrArg (fun l => l[t]?) f1
    simp only [List.getElem?_map, List.getElem?_range (hlt t hk), Option.map_some, Option.some.injEq] at g1
    have e1 : tk1 Pr T t = tkOf Pr t := by unfold tk1; split <;> simp_all
    exact e1.symm.trans g1
  · have g2 := congrArg (fun l => l[t]?) f2
    simp only [List.getElem?_map, List.getElem?_range (hlt t hk), Option.map_some, Option.some.injEq] at g2
    have e2 : tk2 Pr T t = (Pr.info? t).map (fun i => (i.size, i.bytes, i.zero)) := by unfold tk2; split <;> simp_all
    have e3 : tk3 T t = some ((T t).size, (T t).bytes, some (T t).zero) := by unfold tk3; split <;> simp_all
    rw [e2, e3] at g2
    cases hi : Pr.info? t with
    | none => rw [hi] at g2; cases g2
    | some i => rw [hi] at g2; simp at g2; simp [g2.1]
theorem eq_all (t : Nat) (h : (T t).eq = true) : EqOK Pr t (T t).zero := by
  have hlt : t < 656 := by
    rcases Nat.lt_or_ge t 656 with h' | h'
    · exact h'
    · rw [(T_out h').2.1] at h; cases h
  have g := List.all_eq_true.1 f5 t (List.mem_range.2 hlt)
  unfold eqAll at g
  rw [h] at g
  simp only [Bool.not_true, Bool.false_or, Bool.and_eq_true, Bool.not_eq_true'] at g
  exact eqOK_chk tb g.1.1.1 g.1.1.2 g.1.2 g.2
theorem ov_of {f : Nat} {t : TypeId} {fn : Func} (hf : Pr.funcs[f]? = some fn) (hname : (fn.name == "runtime.NumGoroutine") = false) (hb : fn.body.isNone = true) (hn : Extern.findNext fn = none)
    (he : Extern.find fn = some (Extern.SlicesOverlaps.overlaps #[t, t] #[4])) :
    ∃ r, ∀ vs w, (callFunc f vs).run Pr w = (do let v ← Extern.SlicesOverlaps.overlaps #[t, t] #[r] vs; pure (.value v) : Sem Next).run Pr w := by
  refine ⟨4, fun vs w => ?_⟩
  rw [run_callFunc_extern hf hname hb hn he]
  rw [Sem.run_bind]
  rfl
theorem ov_all (t : Nat) (h : (T t).ov ≠ 0) : ∃ r, ∀ vs w, (callFunc ((T t).ov - 1) vs).run Pr w = (do let v ← Extern.SlicesOverlaps.overlaps #[t, t] #[r] vs; pure (.value v) : Sem Next).run Pr w := by
  have key : t = 28 ∨ t = 27 ∨ t = 24 ∨ t = 23 ∨ t = 30 := by
    simp only [T, ovTab] at h
    cases h1 : Nat.beq t 28 with
    | true => exact .inl (Nat.eq_of_beq_eq_true h1)
    | false =>
      cases h2 : Nat.beq t 27 with
      | true => exact .inr (.inl (Nat.eq_of_beq_eq_true h2))
      | false =>
        cases h3 : Nat.beq t 24 with
        | true => exact .inr (.inr (.inl (Nat.eq_of_beq_eq_true h3)))
        | false =>
          cases h4 : Nat.beq t 23 with
          | true => exact .inr (.inr (.inr (.inl (Nat.eq_of_beq_eq_true h4))))
          | false =>
            cases h5 : Nat.beq t 30 with
            | true => exact .inr (.inr (.inr (.inr (Nat.eq_of_beq_eq_true h5))))
            | false => rw [h1, h2, h3, h4, h5] at h; exact absurd rfl h
  rcases key with rfl | rfl | rfl | rfl | rfl
  · exact ov_of (f := 544) Go.Proofs.Tryz.func544 (by kernel_rfl) (by kernel_rfl) (by kernel_rfl) (by kernel_rfl)
  · exact ov_of (f := 539) Go.Proofs.Tryz.func539 (by kernel_rfl) (by kernel_rfl) (by kernel_rfl) (by kernel_rfl)
  · exact ov_of (f := 580) Go.Proofs.Tryz.func580 (by kernel_rfl) (by kernel_rfl) (by kernel_rfl) (by kernel_rfl)
  · exact ov_of (f := 578) Go.Proofs.Tryz.func578 (by kernel_rfl) (by kernel_rfl) (by kernel_rfl) (by kernel_rfl)
  · exact ov_of (f := 452) Go.Proofs.Tryz.func452 (by kernel_rfl) (by kernel_rfl) (by kernel_rfl) (by kernel_rfl)
theorem tok_of (he : ∀ t, (T t).eq = true → EqOK Pr t (T t).zero) : TOK Pr T := by
  intro t hk
  have hlt : t < 656 := by
    rcases Nat.lt_or_ge t 656 with h | h
    · exact h
    · exact absurd (T_other h) hk
  have g1 := congrArg (fun l => l[t]?) f1
  have g2 := congrArg (fun l => l[t]?) f2
  simp only [List.getElem?_map, List.getElem?_range hlt, Option.map_some, Option.some.injEq] at g1 g2
  have g4 := List.all_eq_true.1 f4 t (List.mem_range.2 hlt)
  have e1 : tk1 Pr T t = tkOf Pr t := by unfold tk1; split <;> simp_all
  have e2 : tk2 Pr T t = (Pr.info? t).map (fun i => (i.size, i.bytes, i.zero)) := by unfold tk2; split <;> simp_all
  have e3 : tk3 T t = some ((T t).size, (T t).bytes, some (T t).zero) := by unfold tk3; split <;> simp_all
  have e4 : tk4 T t = (cellsOk (T t).zero.cells.toList && Nat.beq (T t).zero.cells.toList.length (T t).size) := by unfold tk4; split <;> simp_all
  rw [e4] at g4
  simp only [Bool.and_eq_true] at g4
  exact ⟨e1.symm.trans g1, by rw [← e2, g2, e3], g4.1, Nat.eq_of_beq_eq_true g4.2, he t, ov_all t⟩
theorem tok : TOK Pr T := tok_of eq_all
end Go.Fw
