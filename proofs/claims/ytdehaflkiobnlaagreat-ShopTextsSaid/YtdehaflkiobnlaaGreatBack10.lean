/- A part of the proof of Rows.ShopBackSaid: what ShopBack answers, whatever the arguments; it stands under no condition. -/
import Derived.Test.YtdehaflkiobnlaaGreatBack01
import Derived.Laws.StructEq
set_option linter.unusedVariables false
set_option linter.unusedSimpArgs false
set_option linter.unusedSectionVars false
set_option linter.deprecated false
/- '==' of structs of simple fields. -/
namespace Go.Fw
open Go Go.RowKit

/-- A value of a type out of its cells. -/
def valT (agg : Bool) (xs : List Value) : Value := if agg then .agg xs.toArray else xs.headD undef
/-- '==' of a type is that of its cells. -/
def EqIn (P : Program) (d : Nat) (t : TypeId) (agg : Bool) (zs : List Value) : Prop :=
  ∀ (w : World) (xs ys : List Value) (b : Bool), shapeVs zs xs = true → shapeVs zs ys = true → eqVs xs ys = some b →
    (Op.equalIn d t (valT agg xs) (valT agg ys)).run P w = .ok b w

theorem shape_len : ∀ {zs xs : List Value}, shapeVs zs xs = true → xs.length = zs.length
  | [], [], _ => rfl
  | z :: zs, x :: xs, h => by
    simp only [shapeVs, Bool.and_eq_true] at h
    simp [shape_len h.2]
  | [], _ :: _, h => by cases h
  | _ :: _, [], h => by cases h
theorem shape_app : ∀ {z1 z2 xs : List Value}, shapeVs (z1 ++ z2) xs = true → ∃ x1 x2, xs = x1 ++ x2 ∧ shapeVs z1 x1 = true ∧ shapeVs z2 x2 = true
  | [], z2, xs, h => ⟨[], xs, rfl, rfl, h⟩
  | z :: z1, z2, x :: xs, h => by
    simp only [List.cons_append, shapeVs, Bool.and_eq_true] at h
    obtain ⟨x1, x2, e, h1, h2⟩ := shape_app h.2
    exact ⟨x :: x1, x2, by rw [e]; rfl, by simp [shapeVs, h.1, h1], h2⟩
  | _ :: _, _, [], h => by cases h
theorem eqVs_app : ∀ {x1 y1 x2 y2 : List Value} {b : Bool}, x1.length = y1.length → eqVs (x1 ++ x2) (y1 ++ y2) = some b → ∃ b1 b2, eqVs x1 y1 = some b1 ∧ eqVs x2 y2 = some b2 ∧ b = (b1 && b2)
  | [], [], x2, y2, b, _, h => ⟨true, b, rfl, h, by simp⟩
  | x :: x1, y :: y1, x2, y2, b, hl, h => by
    simp only [List.cons_append, eqVs] at h
    split at h
    · rename_i a c h1 h2
      cases h
      obtain ⟨b1, b2, g1, g2, g3⟩ := eqVs_app (by simpa using hl) h2
      exact ⟨a && b1, b2, by simp [eqVs, h1, g1], g2, by rw [g3, Bool.and_assoc]⟩
    · cases h
  | [], _ :: _, _, _, _, hl, _ => by simp at hl
  | _ :: _, [], _, _, _, hl, _ => by simp at hl

/-- The fields, one behind the other. -/
def FieldsOK (P : Program) (d : Nat) : Nat → List Field → List (Bool × List Value) → Prop
  | _, [], [] => True
  | off, f :: fs, (agg, zs) :: l => f.name ≠ "_" ∧ f.offset = off ∧ EqIn P d f.type agg zs ∧ (∀ w, (Go.isAgg f.type).run P w = .ok agg w) ∧ (∀ w, (sizeOf f.type).run P w = .ok zs.length w) ∧ (agg = false → zs.length = 1) ∧
      FieldsOK P d (off + zs.length) fs l
  | _, _, _ => False

theorem eqPart_run {P : Program} {w : World} {t : TypeId} {agg : Bool} {x0 x1 x2 : List Value} (ha : (Go.isAgg t).run P w = .ok agg w) (hs : (sizeOf t).run P w = .ok x1.length w) (h1 : agg = false → x1.length = 1) :
    (part t (x0 ++ x1 ++ x2).toArray x0.length).run P w = .ok (valT agg x1) w := by
  unfold part
  rw [Sem.run_bind, ha]
  cases agg with
  | true =>
    simp [Sem.run_bind, hs, valT]
  | false =>
    have := h1 rfl
    match x1, this with
    | [x], _ => simp [valT]

theorem eqFields_run {P : Program} {d : Nat} : ∀ (fs : List Field) (l : List (Bool × List Value)) (x0 y0 xs ys : List Value) (b : Bool) (w : World), x0.length = y0.length → FieldsOK P d x0.length fs l →
    shapeVs (l.flatMap (·.2)) xs = true → shapeVs (l.flatMap (·.2)) ys = true → eqVs xs ys = some b → (Op.eqFields d (x0 ++ xs).toArray (y0 ++ ys).toArray fs).run P w = .ok b w
  | [], [], x0, y0, xs, ys, b, w, _, _, hx, hy, h => by
    cases xs with
    | nil =>
      cases ys with
      | nil => simp [eqVs] at h; subst h; simp [Op.eqFields]
      | cons y ys => cases hy
    | cons x xs => cases hx
  | f :: fs, (agg, zs) :: l, x0, y0, xs, ys, b, w, hl, hf, hx, hy, h => by
    obtain ⟨f1, f2, f3, f4, f5, f6, f7⟩ := hf
    rw [List.flatMap_cons] at hx hy
    obtain ⟨x1, x2, rfl, hx1, hx2⟩ := shape_app hx
    obtain ⟨y1, y2, rfl, hy1, hy2⟩ := shape_app hy
    have lx := shape_len hx1
    have ly := shape_len hy1
    simp only at lx ly
    obtain ⟨b1, b2, g1, g2, rfl⟩ := eqVs_app (by rw [lx, ly]) h
    have p1 := eqPart_run (P := P) (w := w) (t := f.type) (x0 := x0) (x1 := x1) (x2 := x2) (f4 w) (by rw [lx]; exact f5 w) (fun e => by rw [lx]; exact f6 e)
    have p2 := eqPart_run (P := P) (w := w) (t := f.type) (x0 := y0) (x1 := y1) (x2 := y2) (f4 w) (by rw [ly]; exact f5 w) (fun e => by rw [ly]; exact f6 e)
    have p3 := f3 w x1 y1 b1 hx1 hy1 g1
    rw [List.append_assoc] at p1 p2
    have ih := eqFields_run fs l (x0 ++ x1) (y0 ++ y1) x2 y2 b2 w (by simp [hl, lx, ly]) (by rw [List.length_append, lx]; exact f7) hx2 hy2 g2
    rw [List.append_assoc, List.append_assoc] at ih
    simp only [Op.eqFields, ne_eq, f1, not_false_eq_true, if_true, f2]
    rw [Sem.run_bind, p1]
    simp only [Result.andThen_ok]
    rw [Sem.run_bind, show x0.length = y0.length from hl, p2]
    simp only [Result.andThen_ok]
    rw [Sem.run_bind, p3]
    simp only [Result.andThen_ok]
    cases b1 with
    | true => simpa using ih
    | false => simp

  | [], _ :: _, _, _, _, _, _, _, _, hf, _, _, _ => hf.elim
  | _ :: _, [], _, _, _, _, _, _, _, hf, _, _, _ => hf.elim

theorem eqIn_struct {P : Program} {d : Nat} {t : TypeId} {l : List (Bool × List Value)} (hu : P.underlying t = some (.struct (P.fieldsOf t))) (hp : P.stoodInHeld t = false) (hf : FieldsOK P d 0 (P.fieldsOf t).toList l) :
    EqIn P (d + 1) t true (l.flatMap (·.2)) := by
  intro w xs ys b hx hy h
  have := eqFields_run (P := P) (d := d) _ l [] [] xs ys b w rfl hf hx hy h
  show (Op.equalIn (d + 1) t (.agg xs.toArray) (.agg ys.toArray)).run P w = _
  rw [run_equalIn_struct w d t _ _ hu hp]
  exact this
theorem shape_one {z : Value} : ∀ {xs : List Value}, shapeVs [z] xs = true → ∃ x, xs = [x] ∧ shapeV z x = true
  | [x], h => ⟨x, rfl, by simpa [shapeVs] using h⟩
  | [], h => by cases h
  | _ :: _ :: _, h => by simp [shapeVs] at h
theorem shape_int {k : IntKind} {n : Int} {x : Value} (h : shapeV (.int k n) x = true) : ∃ m, x = .int k m := by
  cases x with
  | int k' m =>
    have : k = k' := of_decide_eq_true h
    exact ⟨m, by rw [this]⟩
  | _ => exact (Bool.false_ne_true h).elim
theorem shape_str {z : ByteArray} {x : Value} (h : shapeV (.string z) x = true) : ∃ m, x = .string m := by
  cases x with
  | string m => exact ⟨m, rfl⟩
  | _ => exact (Bool.false_ne_true h).elim
theorem shape_bool {z : Bool} {x : Value} (h : shapeV (.bool z) x = true) : ∃ m, x = .bool m := by
  cases x with
  | bool m => exact ⟨m, rfl⟩
  | _ => exact (Bool.false_ne_true h).elim
theorem eqVs_one {x y : Value} {b : Bool} (h : eqVs [x] [y] = some b) : eqV x y = some b := by
  simp only [eqVs] at h
  split at h
  · rename_i a c h1 h2
    cases h2
    cases h
    rw [h1]; simp
  · cases h
theorem eqIn_int {P : Program} {d : Nat} {t : TypeId} {k : IntKind} {n : Int} (hu : P.underlying t = some (.int k)) : EqIn P (d + 1) t false [.int k n] := by
  intro w xs ys b hx hy h
  obtain ⟨x, rfl, hx1⟩ := shape_one hx
  obtain ⟨y, rfl, hy1⟩ := shape_one hy
  have h := eqVs_one h
  obtain ⟨p, rfl⟩ := shape_int hx1
  obtain ⟨q, rfl⟩ := shape_int hy1
  simp [eqV] at h
  subst h
  simp only [valT, List.headD_cons, Bool.false_eq_true, if_false]
  rw [run_equalIn_int w d t k k _ _ hu]
  rfl
theorem eqIn_str {P : Program} {d : Nat} {t : TypeId} {z : ByteArray} (hu : P.underlying t = some .string) : EqIn P (d + 1) t false [.string z] := by
  intro w xs ys b hx hy h
  obtain ⟨x, rfl, hx1⟩ := shape_one hx
  obtain ⟨y, rfl, hy1⟩ := shape_one hy
  have h := eqVs_one h
  obtain ⟨⟨⟨p⟩⟩, rfl⟩ := shape_str hx1
  obtain ⟨⟨⟨q⟩⟩, rfl⟩ := shape_str hy1
  simp [eqV] at h
  subst h
  simp only [valT, List.headD_cons, Bool.false_eq_true, if_false]
  rw [run_equalIn_string w d t _ _ hu, ← beq_toListBytes]
  congr 1
  show ((⟨p⟩ : Array UInt8) == ⟨q⟩) = decide (p = q)
  by_cases e : p = q
  · subst e; simp
  · have h2 : ((⟨p⟩ : Array UInt8) == ⟨q⟩) = false := by
      rw [beq_eq_false_iff_ne]
      intro h3
      exact e (by simpa using h3)
    rw [h2]; simp [e]
theorem eqIn_bool {P : Program} {d : Nat} {t : TypeId} {z : Bool} (hu : P.underlying t = some .bool) : EqIn P (d + 1) t false [.bool z] := by
  intro w xs ys b hx hy h
  obtain ⟨x, rfl, hx1⟩ := shape_one hx
  obtain ⟨y, rfl, hy1⟩ := shape_one hy
  have h := eqVs_one h
  obtain ⟨p, rfl⟩ := shape_bool hx1
  obtain ⟨q, rfl⟩ := shape_bool hy1
  simp [eqV] at h
  subst h
  simp only [valT, List.headD_cons, Bool.false_eq_true, if_false]
  exact run_equalIn_bool' w d t _ _ hu
theorem eqOK_of {P : Program} {t : TypeId} {z : Value} (h : EqIn P 10000 t true z.cells.toList) (hg : P.eqGuardType P.depth t = false) : EqOK P t z := by
  intro w xs ys b hx hy hb
  have h1 := h w xs.toList ys.toList b hx hy hb
  have h1' : (Op.equalIn 10000 t (.agg xs) (.agg ys)).run P w = .ok b w := by simpa [valT] using h1
  refine ⟨?_, ?_, fun op x y => run_eqGuard_agg w op t x y xs ys hg⟩
  · rw [run_eql_struct, h1']; rfl
  · rw [run_neq_struct, h1']; rfl
end Go.Fw
/- '==' of the flagged types, by a check. -/
namespace Go.Fw
open Go Go.RowKit
section
variable (P : Program) (T : Nat → TI)
def fieldsChk (ok : Nat → Bool) : Nat → List Field → Bool
  | _, [] => true
  | off, f :: fs => !(f.name == "_") && Nat.beq f.offset off && ok f.type && fieldsChk ok (off + (T f.type).size) fs
def shapeOf (sh : Nat → List Value) (fs : List Field) : List Value := fs.flatMap fun f => sh f.type
/-- The cells of a type, by its fields. -/
def shp : Nat → Nat → List Value
  | 0, _ => []
  | n + 1, t => match (T t).k with
    | .struct _ => shapeOf (shp n) (P.fieldsOf t).toList
    | _ => (T t).zero.cells.toList
def eqChk : Nat → Nat → Bool
  | 0, _ => false
  | n + 1, t => match (T t).k, (T t).zero with
    | .int k, .int k' _ => decide (k = k') && Nat.beq (T t).size 1
    | .str, .string _ => Nat.beq (T t).size 1
    | .bool, .bool _ => Nat.beq (T t).size 1
    | .struct _, _ => !P.stoodInHeld t && fieldsChk T (eqChk n) 0 (P.fieldsOf t).toList && Nat.beq (shp P T (n + 1) t).length (T t).size
    | _, _ => false
end
section
variable {P : Program} {T : Nat → TI}
/-- The facts on types that the check leans on. -/
structure TB (P : Program) (T : Nat → TI) : Prop where
  k : ∀ t, (T t).k ≠ .other → tkOf P t = (T t).k
  i : ∀ t, (T t).k ≠ .other → (P.info? t).map (fun i => i.size) = some (T t).size
theorem tk_struct {t : Nat} {fs : List (Nat × Nat × Nat)} (h : tkOf P t = .struct fs) : P.underlying t = some (.struct (P.fieldsOf t)) := by
  unfold tkOf at h
  split at h <;> simp_all [Program.fieldsOf]
theorem tk_int {t : Nat} {k : IntKind} (h : tkOf P t = .int k) : P.underlying t = some (.int k) := by
  unfold tkOf at h
  split at h <;> simp_all
theorem tk_str {t : Nat} (h : tkOf P t = .str) : P.underlying t = some .string := by
  unfold tkOf at h
  split at h <;> simp_all
theorem tk_bool {t : Nat} (h : tkOf P t = .bool) : P.underlying t = some .bool := by
  unfold tkOf at h
  split at h <;> simp_all
def isSt (T : Nat → TI) (t : Nat) : Bool := match (T t).k with | .struct _ => true | _ => false
theorem isAgg_simple {t : Nat} {d : TypeDesc} (hu : P.underlying t = some d) (w : World) (h : (∃ k, d = .int k) ∨ d = .string ∨ d = .bool) : (Go.isAgg t).run P w = .ok false w := by
  unfold Go.isAgg
  rw [Sem.run_bind, run_underlying hu w]
  rcases h with ⟨k, rfl⟩ | rfl | rfl <;> simp
/-- What is known of a type that may be compared. -/
def Good (P : Program) (T : Nat → TI) (n d t : Nat) : Prop :=
  EqIn P d t (isSt T t) (shp P T n t) ∧ (shp P T n t).length = (T t).size ∧ (isSt T t = false → (T t).size = 1) ∧ (T t).k ≠ .other ∧ ∀ w, (Go.isAgg t).run P w = .ok (isSt T t) w
theorem fields_ok (hb : TB P T) {n d : Nat} (ih : ∀ t, eqChk P T n t = true → Good P T n d t) : ∀ (fs : List Field) (off : Nat), fieldsChk T (eqChk P T n) off fs = true →
    FieldsOK P d off fs (fs.map fun f => (isSt T f.type, shp P T n f.type))
  | [], _, _ => trivial
  | f :: fs, off, h => by
    simp only [fieldsChk, Bool.and_eq_true, Bool.not_eq_true'] at h
    obtain ⟨⟨⟨h1, h2⟩, h3⟩, h4⟩ := h
    obtain ⟨g1, g2, g3, g4, g5⟩ := ih f.type h3
    refine ⟨?_, Nat.eq_of_beq_eq_true h2, g1, g5, fun w => ?_, fun e => by rw [g2]; exact g3 e, ?_⟩
    · intro e
      rw [e] at h1
      simp at h1
    · have := hb.i f.type g4
      rw [Option.map_eq_some_iff] at this
      obtain ⟨i, hi, hs⟩ := this
      simp [Go.sizeOf, typeInfo, hi, hs, g2]
    · rw [g2]; exact fields_ok hb ih fs _ h4
theorem eqChk_ok (hb : TB P T) : ∀ (n d t : Nat), n ≤ d → eqChk P T n t = true → Good P T n d t
  | 0, _, _, _, h => by cases h
  | n + 1, 0, _, hd, _ => by omega
  | n + 1, d + 1, t, hd, h => by
    unfold eqChk at h
    split at h
    · rename_i k k' m hk hz
      simp only [Bool.and_eq_true] at h
      have e : k = k' := of_decide_eq_true h.1
      have hs := Nat.eq_of_beq_eq_true h.2
      subst e
      have hne : (T t).k ≠ .other := by rw [hk]; simp
      have hu := tk_int ((hb.k t hne).trans hk)
      have st : isSt T t = false := by simp [isSt, hk]
      have sh : shp P T (n + 1) t = [.int k m] := by unfold shp; rw [hk]; simp [hz, Value.cells]
      unfold Good
      rw [st, sh]
      exact ⟨eqIn_int hu, by rw [hs]; rfl, fun _ => hs, hne, fun w => isAgg_simple hu w (.inl ⟨k, rfl⟩)⟩
    · rename_i m hk hz
      have hs := Nat.eq_of_beq_eq_true h
      have hne : (T t).k ≠ .other := by rw [hk]; simp
      have hu := tk_str ((hb.k t hne).trans hk)
      have st : isSt T t = false := by simp [isSt, hk]
      have sh : shp P T (n + 1) t = [.string m] := by unfold shp; rw [hk]; simp [hz, Value.cells]
      unfold Good
      rw [st, sh]
      exact ⟨eqIn_str hu, by rw [hs]; rfl, fun _ => hs, hne, fun w => isAgg_simple hu w (.inr (.inl rfl))⟩
    · rename_i m hk hz
      have hs := Nat.eq_of_beq_eq_true h
      have hne : (T t).k ≠ .other := by rw [hk]; simp
      have hu := tk_bool ((hb.k t hne).trans hk)
      have st : isSt T t = false := by simp [isSt, hk]
      have sh : shp P T (n + 1) t = [.bool m] := by unfold shp; rw [hk]; simp [hz, Value.cells]
      unfold Good
      rw [st, sh]
      exact ⟨eqIn_bool hu, by rw [hs]; rfl, fun _ => hs, hne, fun w => isAgg_simple hu w (.inr (.inr rfl))⟩
    · rename_i fs hk
      simp only [Bool.and_eq_true, Bool.not_eq_true'] at h
      obtain ⟨⟨h1, h2⟩, h3⟩ := h
      have hne : (T t).k ≠ .other := by rw [hk]; simp
      have hu := tk_struct ((hb.k t hne).trans hk)
      have st : isSt T t = true := by simp [isSt, hk]
      have sh : shp P T (n + 1) t = shapeOf (shp P T n) (P.fieldsOf t).toList := by
        conv => lhs; unfold shp
        rw [hk]
      have hf := fields_ok hb (d := d) (fun t ht => eqChk_ok hb n d t (by omega) ht) _ 0 h2
      have he := eqIn_struct hu h1 hf
      have hfm : ((P.fieldsOf t).toList.map fun f => (isSt T f.type, shp P T n f.type)).flatMap (·.2) = shapeOf (shp P T n) (P.fieldsOf t).toList := by
        rw [List.flatMap_map]; rfl
      rw [hfm] at he
      refine ⟨by rw [st, sh]; exact he, Nat.eq_of_beq_eq_true h3, fun e => Bool.noConfusion (st.symm.trans e), hne, fun w => ?_⟩
      rw [st]
      unfold Go.isAgg
      rw [Sem.run_bind, run_underlying hu w]
      simp
    · cases h

theorem shapeV_trans {a b c : Value} (h1 : shapeV a b = true) (h2 : shapeV a c = true) : shapeV b c = true := by
  cases a with
  | int k n =>
    obtain ⟨m, rfl⟩ := shape_int h1
    obtain ⟨m', rfl⟩ := shape_int h2
    exact decide_eq_true rfl
  | string z =>
    obtain ⟨m, rfl⟩ := shape_str h1
    obtain ⟨m', rfl⟩ := shape_str h2
    rfl
  | bool z =>
    obtain ⟨m, rfl⟩ := shape_bool h1
    obtain ⟨m', rfl⟩ := shape_bool h2
    rfl
  | _ => exact (Bool.false_ne_true h1).elim
theorem shapeVs_trans : ∀ {a b c : List Value}, shapeVs a b = true → shapeVs a c = true → shapeVs b c = true
  | [], [], [], _, _ => rfl
  | x :: a, y :: b, z :: c, h1, h2 => by
    simp only [shapeVs, Bool.and_eq_true] at h1 h2 ⊢
    exact ⟨shapeV_trans h1.1 h2.1, shapeVs_trans h1.2 h2.2⟩
  | [], _ :: _, _, h, _ => by cases h
  | [], [], _ :: _, _, h => by cases h
  | _ :: _, [], _, h, _ => by cases h
  | _ :: _, _ :: _, [], _, h => by cases h
theorem eqOK_chk (hb : TB P T) {t : Nat} (h : eqChk P T 5 t = true) (hs : isSt T t = true) (hsh : shapeVs (T t).zero.cells.toList (shp P T 5 t) = true) (hg : P.eqGuardType P.depth t = false) : EqOK P t (T t).zero := by
  have hgood := (eqChk_ok hb 5 10000 t (by omega) h).1
  rw [hs] at hgood
  intro w xs ys b hx hy hb'
  have h1 := hgood w xs.toList ys.toList b (shapeVs_trans hsh hx) (shapeVs_trans hsh hy) hb'
  have h1' : (Op.equalIn 10000 t (.agg xs) (.agg ys)).run P w = .ok b w := by simpa [valT] using h1
  refine ⟨?_, ?_, fun op x y => run_eqGuard_agg w op t x y xs ys hg⟩
  · rw [run_eql_struct, h1']; rfl
  · rw [run_neq_struct, h1']; rfl
end
end Go.Fw
