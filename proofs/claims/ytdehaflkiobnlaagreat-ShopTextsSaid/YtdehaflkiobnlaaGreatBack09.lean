/- A part of the proof of Rows.ShopBackSaid: what ShopBack answers, whatever the arguments; it stands under no condition. -/
import Derived.Test.YtdehaflkiobnlaaGreatBack07
import Derived.Test.YtdehaflkiobnlaaGreatBack08
import Derived.Test.YtdehaflkiobnlaaGreatProg
set_option linter.unusedVariables false
set_option linter.unusedSimpArgs false
set_option linter.unusedSectionVars false
set_option linter.deprecated false
namespace Go.Fw
open Go
noncomputable abbrev Pr : Program := Go.Proofs.Tryz.prog
/-- parted; Clone; Insert; Delete, DeleteFunc; put -/
def ownF : List Nat := [320, 285, 316, 188, 195, 460, 360, 534, 466, 461, 536, 324, 562, 471, 588, 359, 109]
/-- captured variables that are written: Timers' set, Lapse's, the methods that are bound to a command's work -/
def sharedF : List Nat := [170, 591, 176, 177, 178, 179, 180, 181, 182, 183, 184, 185, 186, 187]
/-- functions that are handed pointers -/
def inlF : List Nat := [112, 228, 556, 591, 559, 593, 603, 560, 463, 555, 189, 190, 358, 82]
/-- (*strings.Builder).copyCheck: a variable that has not been written to takes its own place down; one that has is left. -/
def jiB : Inl := fun f ar s K _ => f = 378 ∧ ∃ r c1, ar = [.one (.ptr r 0)] ∧
  ((s.bs r = .tvars 321 [.p (.v (.pointer none)), c1] ∧ K (.tup []) (s.app none ⟨.junk, [(r, .vars [.ptr r 0, c1])], s.nx⟩)) ∨ (s.bs r = .vars [.ptr r 0, c1] ∧ K (.tup []) s))
noncomputable def cfg : Cfg :=
  { T := T, own := fun f => memB f ownF, shared := fun f => memB f sharedF, inl := fun f => memB f inlF, tv := fun t => Nat.beq t 321, ji := jiB
    jm := by
      rintro f ar s K K' Pp Pp' hk hp ⟨h1, r, c1, h2, h4⟩
      exact ⟨h1, r, c1, h2, h4.imp (fun h => ⟨h.1, hk _ _ h.2⟩) fun h => ⟨h.1, hk _ _ h.2⟩⟩ }
def I0 : CallRel := fun _ _ _ _ _ => False
abbrev PC0 : CallRel := PCall cfg Pr I0
/-- whatever calls are told from outside -/
abbrev PCX (I : CallRel) : CallRel := PCall cfg Pr I
structure Load where
  sku : Str
  units : Int
  counts : Int
  key : Int
structure Pay where
  amount : Int
  caught : Int
  until' : Int
  state : Int
structure Ask where
  state : Int
  until' : Int
structure Order where
  id : Int
  sku : Str
  cls : Int
  seq : Int
  need : Int
  done : Int
  price : Int
  cutoff : Int
  split : Bool
  phase : Int
  load : Load
  pay : Pay
  ask : Ask
  ends : Bool
def Load.e (l : Load) : List Value := [vS l.sku, vI l.units, vI l.counts, vI l.key]
def Pay.e (l : Pay) : List Value := [vI l.amount, vI l.caught, vI l.until', vI l.state]
def Ask.e (l : Ask) : List Value := [vI l.state, vI l.until']
def Order.e (o : Order) : List Value := [vI o.id, vS o.sku, vI o.cls, vI o.seq, vI o.need, vI o.done, vI o.price, vI o.cutoff, .bool o.split, vI o.phase,
  vS o.load.sku, vI o.load.units, vI o.load.counts, vI o.load.key, vI o.pay.amount, vI o.pay.caught, vI o.pay.until', vI o.pay.state, vI o.ask.state, vI o.ask.until', .bool o.ends]
end Go.Fw
