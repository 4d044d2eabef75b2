/-
  No cell of these rows narrows 'for every input' (looked for: loops, veiled, ifaces, maps, wideKeys, modest, calm, conditions, laid).
  DERIVED. THE GIVEN ROWS OF THIS SEAT. 20 by the template 'for every input the law returns true; each argument reads behind the call as it read before'; 0 by the template 'total and deterministic' (their statements: YtdehaflkiobnlaaGreatTotals.lean).
  GIVEN WITH THE SEED: the statements are not yours to turn. If you find one false, say at which input.
  Laid BY PROGRAM, IN A SANDBOX (cutbox-rows.mjs): the forced cells as the released guide's own fill.sh prints them over the translation c453624abbf4ba79… (all of the seat's roots in one cut). By AI agents, Wed Nov 11 2026. No macro, syntax, notation, axiom, sorry.
-/
import Derived.Test.YtdehaflkiobnlaaGreatChecked
import GoSem.Claim
import GoSem.ClaimJoined
import GoSem.ClaimMapViews
import Derived.JoinedTies
import Derived.KernelRfl
namespace Go.Proofs.YtdehaflkiobnlaaGreat
/- THE CELL 'sum', in the pinned program and in every row, IS THE sha256 OF THE DUMP (.gsa) THAT YtdehaflkiobnlaaGreatProg.lean LOADS. Nothing in Lean hashes anything: it is a label: what it is worth is what the hold of that sum in a sandbox is worth. -/
noncomputable def Tryz.pinned : Pinned := { name := "ytdehaflkiobnlaagreat", sum := "c453624abbf4ba796781d7316d468e090279dd6fdff773eb0eb77aff8eb6e1ac", checked := Tryz.checked }
namespace Rows
def none {H : Type} : Left H := { results := [], args := [] }

/-- 'tarrylaw19.ShopKeeps': WHATEVER THE INPUT: true; the input reads as it did. -/
def shopKeepsSpec : ChangeSpec := { name := "shopKeeps", fn := fun _ => fun
  | [d] => { results := [.lit (.bool true)], args := [d] }
  | _ => none }
def shopKeepsRow : OpenClaim := { program := "ytdehaflkiobnlaagreat", sum := "c453624abbf4ba796781d7316d468e090279dd6fdff773eb0eb77aff8eb6e1ac", func := "tarry/tarrylaw19.ShopKeeps", spec := "shopKeeps", inPlace := ["internal/bytealg.abigen_runtime_cmpstring", "slices.overlaps[tarry/api.Timer]", "slices.overlaps[string]", "slices.overlaps[tarry/api.Sub]", "slices.overlaps[tarry/api.Row]", "slices.overlaps[tarry/api.Order]"], unfollowed := true, recurses := true, apart := false }
def ShopKeepsSaid : Prop := shopKeepsRow.holds Tryz.pinned (OpenSpec.ofChange shopKeepsSpec)

/-- ITS FALSE NEIGHBOUR: 'it returns false'. Refute it at one input. -/
def shopKeepsWrong : ChangeSpec := { name := "shopKeeps", fn := fun _ => fun
  | [d] => { results := [.lit (.bool false)], args := [d] }
  | _ => none }
def ShopKeepsWrongFalsely : Prop := shopKeepsRow.holds Tryz.pinned (OpenSpec.ofChange shopKeepsWrong)

/-- 'tarrylaw19.ShopIdle': WHATEVER THE INPUT: true; the input reads as it did. -/
def shopIdleSpec : ChangeSpec := { name := "shopIdle", fn := fun _ => fun
  | [d1, d2] => { results := [.lit (.bool true)], args := [d1, d2] }
  | _ => none }
def shopIdleRow : OpenClaim := { program := "ytdehaflkiobnlaagreat", sum := "c453624abbf4ba796781d7316d468e090279dd6fdff773eb0eb77aff8eb6e1ac", func := "tarry/tarrylaw19.ShopIdle", spec := "shopIdle", inPlace := ["internal/bytealg.abigen_runtime_cmpstring", "slices.overlaps[tarry/api.Timer]", "slices.overlaps[string]", "slices.overlaps[tarry/api.Sub]", "slices.overlaps[tarry/api.Row]", "slices.overlaps[tarry/api.Order]"], unfollowed := true, recurses := true, apart := false }
def ShopIdleSaid : Prop := shopIdleRow.holds Tryz.pinned (OpenSpec.ofChange shopIdleSpec)

/-- ITS FALSE NEIGHBOUR: 'it returns false'. Refute it at one input. -/
def shopIdleWrong : ChangeSpec := { name := "shopIdle", fn := fun _ => fun
  | [d1, d2] => { results := [.lit (.bool false)], args := [d1, d2] }
  | _ => none }
def ShopIdleWrongFalsely : Prop := shopIdleRow.holds Tryz.pinned (OpenSpec.ofChange shopIdleWrong)

/-- 'tarrylaw19.ShopEmpties': WHATEVER THE INPUT: true; the input reads as it did. -/
def shopEmptiesSpec : ChangeSpec := { name := "shopEmpties", fn := fun _ => fun
  | [d1, d2] => { results := [.lit (.bool true)], args := [d1, d2] }
  | _ => none }
def shopEmptiesRow : OpenClaim := { program := "ytdehaflkiobnlaagreat", sum := "c453624abbf4ba796781d7316d468e090279dd6fdff773eb0eb77aff8eb6e1ac", func := "tarry/tarrylaw19.ShopEmpties", spec := "shopEmpties", inPlace := ["internal/bytealg.abigen_runtime_cmpstring", "slices.overlaps[tarry/api.Timer]", "slices.overlaps[string]", "slices.overlaps[tarry/api.Sub]", "slices.overlaps[tarry/api.Row]", "slices.overlaps[tarry/api.Order]"], unfollowed := true, recurses := true, apart := false }
def ShopEmptiesSaid : Prop := shopEmptiesRow.holds Tryz.pinned (OpenSpec.ofChange shopEmptiesSpec)

/-- ITS FALSE NEIGHBOUR: 'it returns false'. Refute it at one input. -/
def shopEmptiesWrong : ChangeSpec := { name := "shopEmpties", fn := fun _ => fun
  | [d1, d2] => { results := [.lit (.bool false)], args := [d1, d2] }
  | _ => none }
def ShopEmptiesWrongFalsely : Prop := shopEmptiesRow.holds Tryz.pinned (OpenSpec.ofChange shopEmptiesWrong)

/-- 'tarrylaw19.ShopTexts': WHATEVER THE INPUT: true; the input reads as it did. -/
def shopTextsSpec : ChangeSpec := { name := "shopTexts", fn := fun _ => fun
  | [d1, d2] => { results := [.lit (.bool true)], args := [d1, d2] }
  | _ => none }
def shopTextsRow : OpenClaim := { program := "ytdehaflkiobnlaagreat", sum := "c453624abbf4ba796781d7316d468e090279dd6fdff773eb0eb77aff8eb6e1ac", func := "tarry/tarrylaw19.ShopTexts", spec := "shopTexts", inPlace := ["internal/bytealg.abigen_runtime_cmpstring", "internal/abi.NoEscape", "slices.overlaps[tarry/api.Timer]", "slices.overlaps[string]", "slices.overlaps[tarry/api.Sub]", "slices.overlaps[tarry/api.Row]", "slices.overlaps[tarry/api.Order]"], unfollowed := true, recurses := true, apart := false }
def ShopTextsSaid : Prop := shopTextsRow.holds Tryz.pinned (OpenSpec.ofChange shopTextsSpec)

/-- ITS FALSE NEIGHBOUR: 'it returns false'. Refute it at one input. -/
def shopTextsWrong : ChangeSpec := { name := "shopTexts", fn := fun _ => fun
  | [d1, d2] => { results := [.lit (.bool false)], args := [d1, d2] }
  | _ => none }
def ShopTextsWrongFalsely : Prop := shopTextsRow.holds Tryz.pinned (OpenSpec.ofChange shopTextsWrong)

/-- 'tarrylaw19.ShopBack': WHATEVER THE INPUT: true; the input reads as it did. -/
def shopBackSpec : ChangeSpec := { name := "shopBack", fn := fun _ => fun
  | [d1, d2, d3] => { results := [.lit (.bool true)], args := [d1, d2, d3] }
  | _ => none }
def shopBackRow : OpenClaim := { program := "ytdehaflkiobnlaagreat", sum := "c453624abbf4ba796781d7316d468e090279dd6fdff773eb0eb77aff8eb6e1ac", func := "tarry/tarrylaw19.ShopBack", spec := "shopBack", inPlace := ["internal/bytealg.abigen_runtime_cmpstring", "internal/abi.NoEscape", "slices.overlaps[tarry/api.Timer]", "slices.overlaps[string]", "slices.overlaps[tarry/api.Sub]", "slices.overlaps[tarry/api.Row]", "slices.overlaps[tarry/api.Order]"], unfollowed := true, recurses := true, apart := false }
def ShopBackSaid : Prop := shopBackRow.holds Tryz.pinned (OpenSpec.ofChange shopBackSpec)

/-- ITS FALSE NEIGHBOUR: 'it returns false'. Refute it at one input. -/
def shopBackWrong : ChangeSpec := { name := "shopBack", fn := fun _ => fun
  | [d1, d2, d3] => { results := [.lit (.bool false)], args := [d1, d2, d3] }
  | _ => none }
def ShopBackWrongFalsely : Prop := shopBackRow.holds Tryz.pinned (OpenSpec.ofChange shopBackWrong)

/-- 'tarrylaw20.StoreReplays': WHATEVER THE INPUT: true; the input reads as it did. -/
def storeReplaysSpec : ChangeSpec := { name := "storeReplays", fn := fun _ => fun
  | [d1, d2] => { results := [.lit (.bool true)], args := [d1, d2] }
  | _ => none }
def storeReplaysRow : OpenClaim := { program := "ytdehaflkiobnlaagreat", sum := "c453624abbf4ba796781d7316d468e090279dd6fdff773eb0eb77aff8eb6e1ac", func := "tarry/tarrylaw20.StoreReplays", spec := "storeReplays", inPlace := ["internal/abi.NoEscape", "internal/bytealg.MakeNoZero", "internal/bytealg.abigen_runtime_cmpstring", "slices.overlaps[tarry/api.Timer]", "slices.overlaps[string]", "slices.overlaps[tarry/api.Sub]", "slices.overlaps[tarry/api.Row]", "slices.overlaps[tarry/api.Order]"], unfollowed := true, recurses := true, apart := false }
def StoreReplaysSaid : Prop := storeReplaysRow.holds Tryz.pinned (OpenSpec.ofChange storeReplaysSpec)

/-- ITS FALSE NEIGHBOUR: 'it returns false'. Refute it at one input. -/
def storeReplaysWrong : ChangeSpec := { name := "storeReplays", fn := fun _ => fun
  | [d1, d2] => { results := [.lit (.bool false)], args := [d1, d2] }
  | _ => none }
def StoreReplaysWrongFalsely : Prop := storeReplaysRow.holds Tryz.pinned (OpenSpec.ofChange storeReplaysWrong)

/-- 'tarrytop.TopEnds': WHATEVER THE INPUT: true; the input reads as it did. -/
def topEndsSpec : ChangeSpec := { name := "topEnds", fn := fun _ => fun
  | [d] => { results := [.lit (.bool true)], args := [d] }
  | _ => none }
def topEndsRow : OpenClaim := { program := "ytdehaflkiobnlaagreat", sum := "c453624abbf4ba796781d7316d468e090279dd6fdff773eb0eb77aff8eb6e1ac", func := "tarry/tarrytop.TopEnds", spec := "topEnds", inPlace := ["internal/bytealg.abigen_runtime_cmpstring", "slices.overlaps[tarry/api.Timer]", "slices.overlaps[string]", "slices.overlaps[tarry/api.Sub]", "slices.overlaps[tarry/api.Row]", "slices.overlaps[tarry/api.Order]"], unfollowed := true, recurses := true, apart := false }
def TopEndsSaid : Prop := topEndsRow.holds Tryz.pinned (OpenSpec.ofChange topEndsSpec)

/-- ITS FALSE NEIGHBOUR: 'it returns false'. Refute it at one input. -/
def topEndsWrong : ChangeSpec := { name := "topEnds", fn := fun _ => fun
  | [d] => { results := [.lit (.bool false)], args := [d] }
  | _ => none }
def TopEndsWrongFalsely : Prop := topEndsRow.holds Tryz.pinned (OpenSpec.ofChange topEndsWrong)

/-- 'tarrylaw20.StoreOpens': WHATEVER THE INPUT: true; the input reads as it did. -/
def storeOpensSpec : ChangeSpec := { name := "storeOpens", fn := fun _ => fun
  | [d1, d2] => { results := [.lit (.bool true)], args := [d1, d2] }
  | _ => none }
def storeOpensRow : OpenClaim := { program := "ytdehaflkiobnlaagreat", sum := "c453624abbf4ba796781d7316d468e090279dd6fdff773eb0eb77aff8eb6e1ac", func := "tarry/tarrylaw20.StoreOpens", spec := "storeOpens", inPlace := ["internal/abi.NoEscape", "internal/bytealg.MakeNoZero", "internal/bytealg.abigen_runtime_cmpstring", "slices.overlaps[tarry/api.Timer]", "slices.overlaps[string]", "slices.overlaps[tarry/api.Sub]", "slices.overlaps[tarry/api.Row]", "slices.overlaps[tarry/api.Order]"], unfollowed := true, recurses := true, apart := false }
def StoreOpensSaid : Prop := storeOpensRow.holds Tryz.pinned (OpenSpec.ofChange storeOpensSpec)

/-- ITS FALSE NEIGHBOUR: 'it returns false'. Refute it at one input. -/
def storeOpensWrong : ChangeSpec := { name := "storeOpens", fn := fun _ => fun
  | [d1, d2] => { results := [.lit (.bool false)], args := [d1, d2] }
  | _ => none }
def StoreOpensWrongFalsely : Prop := storeOpensRow.holds Tryz.pinned (OpenSpec.ofChange storeOpensWrong)

/-- 'tarrylaw20.StoreDoes': WHATEVER THE INPUT: true; the input reads as it did. -/
def storeDoesSpec : ChangeSpec := { name := "storeDoes", fn := fun _ => fun
  | [d1, d2] => { results := [.lit (.bool true)], args := [d1, d2] }
  | _ => none }
def storeDoesRow : OpenClaim := { program := "ytdehaflkiobnlaagreat", sum := "c453624abbf4ba796781d7316d468e090279dd6fdff773eb0eb77aff8eb6e1ac", func := "tarry/tarrylaw20.StoreDoes", spec := "storeDoes", inPlace := ["internal/abi.NoEscape", "internal/bytealg.MakeNoZero", "internal/bytealg.abigen_runtime_cmpstring", "slices.overlaps[tarry/api.Timer]", "slices.overlaps[string]", "slices.overlaps[tarry/api.Sub]", "slices.overlaps[tarry/api.Row]", "slices.overlaps[tarry/api.Order]"], unfollowed := true, recurses := true, apart := false }
def StoreDoesSaid : Prop := storeDoesRow.holds Tryz.pinned (OpenSpec.ofChange storeDoesSpec)

/-- ITS FALSE NEIGHBOUR: 'it returns false'. Refute it at one input. -/
def storeDoesWrong : ChangeSpec := { name := "storeDoes", fn := fun _ => fun
  | [d1, d2] => { results := [.lit (.bool false)], args := [d1, d2] }
  | _ => none }
def StoreDoesWrongFalsely : Prop := storeDoesRow.holds Tryz.pinned (OpenSpec.ofChange storeDoesWrong)

/-- 'tarrytop.TopShips': WHATEVER THE INPUT: true; the input reads as it did. -/
def topShipsSpec : ChangeSpec := { name := "topShips", fn := fun _ => fun
  | [d] => { results := [.lit (.bool true)], args := [d] }
  | _ => none }
def topShipsRow : OpenClaim := { program := "ytdehaflkiobnlaagreat", sum := "c453624abbf4ba796781d7316d468e090279dd6fdff773eb0eb77aff8eb6e1ac", func := "tarry/tarrytop.TopShips", spec := "topShips", inPlace := ["internal/bytealg.abigen_runtime_cmpstring", "slices.overlaps[tarry/api.Timer]", "slices.overlaps[string]", "slices.overlaps[tarry/api.Sub]", "slices.overlaps[tarry/api.Row]", "slices.overlaps[tarry/api.Order]"], unfollowed := true, recurses := true, apart := false }
def TopShipsSaid : Prop := topShipsRow.holds Tryz.pinned (OpenSpec.ofChange topShipsSpec)

/-- ITS FALSE NEIGHBOUR: 'it returns false'. Refute it at one input. -/
def topShipsWrong : ChangeSpec := { name := "topShips", fn := fun _ => fun
  | [d] => { results := [.lit (.bool false)], args := [d] }
  | _ => none }
def TopShipsWrongFalsely : Prop := topShipsRow.holds Tryz.pinned (OpenSpec.ofChange topShipsWrong)

/-- 'tarrylaw20.StorePasses': WHATEVER THE INPUT: true; the input reads as it did. -/
def storePassesSpec : ChangeSpec := { name := "storePasses", fn := fun _ => fun
  | [d1, d2] => { results := [.lit (.bool true)], args := [d1, d2] }
  | _ => none }
def storePassesRow : OpenClaim := { program := "ytdehaflkiobnlaagreat", sum := "c453624abbf4ba796781d7316d468e090279dd6fdff773eb0eb77aff8eb6e1ac", func := "tarry/tarrylaw20.StorePasses", spec := "storePasses", inPlace := ["internal/abi.NoEscape", "internal/bytealg.MakeNoZero", "internal/bytealg.abigen_runtime_cmpstring", "slices.overlaps[tarry/api.Timer]", "slices.overlaps[string]", "slices.overlaps[tarry/api.Sub]", "slices.overlaps[tarry/api.Row]", "slices.overlaps[tarry/api.Order]"], unfollowed := true, recurses := true, apart := false }
def StorePassesSaid : Prop := storePassesRow.holds Tryz.pinned (OpenSpec.ofChange storePassesSpec)

/-- ITS FALSE NEIGHBOUR: 'it returns false'. Refute it at one input. -/
def storePassesWrong : ChangeSpec := { name := "storePasses", fn := fun _ => fun
  | [d1, d2] => { results := [.lit (.bool false)], args := [d1, d2] }
  | _ => none }
def StorePassesWrongFalsely : Prop := storePassesRow.holds Tryz.pinned (OpenSpec.ofChange storePassesWrong)

/-- 'tarrylaw20.StoreTwice': WHATEVER THE INPUT: true; the input reads as it did. -/
def storeTwiceSpec : ChangeSpec := { name := "storeTwice", fn := fun _ => fun
  | [d] => { results := [.lit (.bool true)], args := [d] }
  | _ => none }
def storeTwiceRow : OpenClaim := { program := "ytdehaflkiobnlaagreat", sum := "c453624abbf4ba796781d7316d468e090279dd6fdff773eb0eb77aff8eb6e1ac", func := "tarry/tarrylaw20.StoreTwice", spec := "storeTwice", inPlace := ["internal/abi.NoEscape", "internal/bytealg.MakeNoZero", "internal/bytealg.abigen_runtime_cmpstring", "slices.overlaps[tarry/api.Timer]", "slices.overlaps[string]", "slices.overlaps[tarry/api.Sub]", "slices.overlaps[tarry/api.Row]", "slices.overlaps[tarry/api.Order]"], unfollowed := true, recurses := true, apart := false }
def StoreTwiceSaid : Prop := storeTwiceRow.holds Tryz.pinned (OpenSpec.ofChange storeTwiceSpec)

/-- ITS FALSE NEIGHBOUR: 'it returns false'. Refute it at one input. -/
def storeTwiceWrong : ChangeSpec := { name := "storeTwice", fn := fun _ => fun
  | [d] => { results := [.lit (.bool false)], args := [d] }
  | _ => none }
def StoreTwiceWrongFalsely : Prop := storeTwiceRow.holds Tryz.pinned (OpenSpec.ofChange storeTwiceWrong)

/-- 'tarrytop.TopWaits': WHATEVER THE INPUT: true; the input reads as it did. -/
def topWaitsSpec : ChangeSpec := { name := "topWaits", fn := fun _ => fun
  | [d1, d2, d3] => { results := [.lit (.bool true)], args := [d1, d2, d3] }
  | _ => none }
def topWaitsRow : OpenClaim := { program := "ytdehaflkiobnlaagreat", sum := "c453624abbf4ba796781d7316d468e090279dd6fdff773eb0eb77aff8eb6e1ac", func := "tarry/tarrytop.TopWaits", spec := "topWaits", inPlace := ["internal/bytealg.abigen_runtime_cmpstring", "slices.overlaps[tarry/api.Timer]", "slices.overlaps[string]", "slices.overlaps[tarry/api.Sub]", "slices.overlaps[tarry/api.Row]", "slices.overlaps[tarry/api.Order]"], unfollowed := true, recurses := true, apart := false }
def TopWaitsSaid : Prop := topWaitsRow.holds Tryz.pinned (OpenSpec.ofChange topWaitsSpec)

/-- ITS FALSE NEIGHBOUR: 'it returns false'. Refute it at one input. -/
def topWaitsWrong : ChangeSpec := { name := "topWaits", fn := fun _ => fun
  | [d1, d2, d3] => { results := [.lit (.bool false)], args := [d1, d2, d3] }
  | _ => none }
def TopWaitsWrongFalsely : Prop := topWaitsRow.holds Tryz.pinned (OpenSpec.ofChange topWaitsWrong)

/-- 'tarrylaw20.StoreSeals': WHATEVER THE INPUT: true; the input reads as it did. -/
def storeSealsSpec : ChangeSpec := { name := "storeSeals", fn := fun _ => fun
  | [d1, d2, d3, d4, d5] => { results := [.lit (.bool true)], args := [d1, d2, d3, d4, d5] }
  | _ => none }
def storeSealsRow : OpenClaim := { program := "ytdehaflkiobnlaagreat", sum := "c453624abbf4ba796781d7316d468e090279dd6fdff773eb0eb77aff8eb6e1ac", func := "tarry/tarrylaw20.StoreSeals", spec := "storeSeals", inPlace := ["internal/abi.NoEscape", "internal/bytealg.MakeNoZero", "internal/bytealg.abigen_runtime_cmpstring", "slices.overlaps[tarry/api.Timer]", "slices.overlaps[string]", "slices.overlaps[tarry/api.Sub]", "slices.overlaps[tarry/api.Row]", "slices.overlaps[tarry/api.Order]"], unfollowed := true, recurses := true, apart := false }
def StoreSealsSaid : Prop := storeSealsRow.holds Tryz.pinned (OpenSpec.ofChange storeSealsSpec)

/-- ITS FALSE NEIGHBOUR: 'it returns false'. Refute it at one input. -/
def storeSealsWrong : ChangeSpec := { name := "storeSeals", fn := fun _ => fun
  | [d1, d2, d3, d4, d5] => { results := [.lit (.bool false)], args := [d1, d2, d3, d4, d5] }
  | _ => none }
def StoreSealsWrongFalsely : Prop := storeSealsRow.holds Tryz.pinned (OpenSpec.ofChange storeSealsWrong)

/-- 'tarrylaw20.StoreLives': WHATEVER THE INPUT: true; the input reads as it did. -/
def storeLivesSpec : ChangeSpec := { name := "storeLives", fn := fun _ => fun
  | [d1, d2] => { results := [.lit (.bool true)], args := [d1, d2] }
  | _ => none }
def storeLivesRow : OpenClaim := { program := "ytdehaflkiobnlaagreat", sum := "c453624abbf4ba796781d7316d468e090279dd6fdff773eb0eb77aff8eb6e1ac", func := "tarry/tarrylaw20.StoreLives", spec := "storeLives", inPlace := ["internal/abi.NoEscape", "internal/bytealg.MakeNoZero", "internal/bytealg.abigen_runtime_cmpstring", "slices.overlaps[tarry/api.Timer]", "slices.overlaps[string]", "slices.overlaps[tarry/api.Sub]", "slices.overlaps[tarry/api.Row]", "slices.overlaps[tarry/api.Order]"], unfollowed := true, recurses := true, apart := false }
def StoreLivesSaid : Prop := storeLivesRow.holds Tryz.pinned (OpenSpec.ofChange storeLivesSpec)

/-- ITS FALSE NEIGHBOUR: 'it returns false'. Refute it at one input. -/
def storeLivesWrong : ChangeSpec := { name := "storeLives", fn := fun _ => fun
  | [d1, d2] => { results := [.lit (.bool false)], args := [d1, d2] }
  | _ => none }
def StoreLivesWrongFalsely : Prop := storeLivesRow.holds Tryz.pinned (OpenSpec.ofChange storeLivesWrong)

/-- 'tarrylaw21.ScriptRuns': WHATEVER THE INPUT: true; the input reads as it did. -/
def scriptRunsSpec : ChangeSpec := { name := "scriptRuns", fn := fun _ => fun
  | [d1, d2] => { results := [.lit (.bool true)], args := [d1, d2] }
  | _ => none }
def scriptRunsRow : OpenClaim := { program := "ytdehaflkiobnlaagreat", sum := "c453624abbf4ba796781d7316d468e090279dd6fdff773eb0eb77aff8eb6e1ac", func := "tarry/tarrylaw21.ScriptRuns", spec := "scriptRuns", inPlace := ["internal/abi.NoEscape", "internal/bytealg.MakeNoZero", "internal/bytealg.abigen_runtime_cmpstring", "slices.overlaps[tarry/api.Timer]", "slices.overlaps[string]", "slices.overlaps[tarry/api.Sub]", "slices.overlaps[tarry/api.Row]", "slices.overlaps[tarry/api.Order]"], unfollowed := true, recurses := true, apart := false }
def ScriptRunsSaid : Prop := scriptRunsRow.holds Tryz.pinned (OpenSpec.ofChange scriptRunsSpec)

/-- ITS FALSE NEIGHBOUR: 'it returns false'. Refute it at one input. -/
def scriptRunsWrong : ChangeSpec := { name := "scriptRuns", fn := fun _ => fun
  | [d1, d2] => { results := [.lit (.bool false)], args := [d1, d2] }
  | _ => none }
def ScriptRunsWrongFalsely : Prop := scriptRunsRow.holds Tryz.pinned (OpenSpec.ofChange scriptRunsWrong)

/-- 'tarrylaw21.ScriptParts': WHATEVER THE INPUT: true; the input reads as it did. -/
def scriptPartsSpec : ChangeSpec := { name := "scriptParts", fn := fun _ => fun
  | [d1, d2] => { results := [.lit (.bool true)], args := [d1, d2] }
  | _ => none }
def scriptPartsRow : OpenClaim := { program := "ytdehaflkiobnlaagreat", sum := "c453624abbf4ba796781d7316d468e090279dd6fdff773eb0eb77aff8eb6e1ac", func := "tarry/tarrylaw21.ScriptParts", spec := "scriptParts", inPlace := ["internal/abi.NoEscape", "internal/bytealg.MakeNoZero", "internal/bytealg.abigen_runtime_cmpstring", "slices.overlaps[tarry/api.Timer]", "slices.overlaps[string]", "slices.overlaps[tarry/api.Sub]", "slices.overlaps[tarry/api.Row]", "slices.overlaps[tarry/api.Order]"], unfollowed := true, recurses := true, apart := false }
def ScriptPartsSaid : Prop := scriptPartsRow.holds Tryz.pinned (OpenSpec.ofChange scriptPartsSpec)

/-- ITS FALSE NEIGHBOUR: 'it returns false'. Refute it at one input. -/
def scriptPartsWrong : ChangeSpec := { name := "scriptParts", fn := fun _ => fun
  | [d1, d2] => { results := [.lit (.bool false)], args := [d1, d2] }
  | _ => none }
def ScriptPartsWrongFalsely : Prop := scriptPartsRow.holds Tryz.pinned (OpenSpec.ofChange scriptPartsWrong)

/-- 'tarrytop.TopFair': WHATEVER THE INPUT: true; the input reads as it did. -/
def topFairSpec : ChangeSpec := { name := "topFair", fn := fun _ => fun
  | [d1, d2] => { results := [.lit (.bool true)], args := [d1, d2] }
  | _ => none }
def topFairRow : OpenClaim := { program := "ytdehaflkiobnlaagreat", sum := "c453624abbf4ba796781d7316d468e090279dd6fdff773eb0eb77aff8eb6e1ac", func := "tarry/tarrytop.TopFair", spec := "topFair", inPlace := ["internal/bytealg.abigen_runtime_cmpstring", "slices.overlaps[tarry/api.Timer]", "slices.overlaps[string]", "slices.overlaps[tarry/api.Sub]", "slices.overlaps[tarry/api.Row]", "slices.overlaps[tarry/api.Order]"], unfollowed := true, recurses := true, apart := false }
def TopFairSaid : Prop := topFairRow.holds Tryz.pinned (OpenSpec.ofChange topFairSpec)

/-- ITS FALSE NEIGHBOUR: 'it returns false'. Refute it at one input. -/
def topFairWrong : ChangeSpec := { name := "topFair", fn := fun _ => fun
  | [d1, d2] => { results := [.lit (.bool false)], args := [d1, d2] }
  | _ => none }
def TopFairWrongFalsely : Prop := topFairRow.holds Tryz.pinned (OpenSpec.ofChange topFairWrong)

/-- 'tarrytop.TopIndexes': WHATEVER THE INPUT: true; the input reads as it did. -/
def topIndexesSpec : ChangeSpec := { name := "topIndexes", fn := fun _ => fun
  | [d] => { results := [.lit (.bool true)], args := [d] }
  | _ => none }
def topIndexesRow : OpenClaim := { program := "ytdehaflkiobnlaagreat", sum := "c453624abbf4ba796781d7316d468e090279dd6fdff773eb0eb77aff8eb6e1ac", func := "tarry/tarrytop.TopIndexes", spec := "topIndexes", inPlace := ["internal/bytealg.abigen_runtime_cmpstring", "slices.overlaps[tarry/api.Timer]", "slices.overlaps[string]", "slices.overlaps[tarry/api.Sub]", "slices.overlaps[tarry/api.Row]", "slices.overlaps[tarry/api.Order]", "internal/abi.NoEscape"], unfollowed := true, recurses := true, apart := false }
def TopIndexesSaid : Prop := topIndexesRow.holds Tryz.pinned (OpenSpec.ofChange topIndexesSpec)

/-- ITS FALSE NEIGHBOUR: 'it returns false'. Refute it at one input. -/
def topIndexesWrong : ChangeSpec := { name := "topIndexes", fn := fun _ => fun
  | [d] => { results := [.lit (.bool false)], args := [d] }
  | _ => none }
def TopIndexesWrongFalsely : Prop := topIndexesRow.holds Tryz.pinned (OpenSpec.ofChange topIndexesWrong)

/-- 'tarrytop.TopCrashes': WHATEVER THE INPUT: true; the input reads as it did. -/
def topCrashesSpec : ChangeSpec := { name := "topCrashes", fn := fun _ => fun
  | [d1, d2, d3] => { results := [.lit (.bool true)], args := [d1, d2, d3] }
  | _ => none }
def topCrashesRow : OpenClaim := { program := "ytdehaflkiobnlaagreat", sum := "c453624abbf4ba796781d7316d468e090279dd6fdff773eb0eb77aff8eb6e1ac", func := "tarry/tarrytop.TopCrashes", spec := "topCrashes", inPlace := ["internal/abi.NoEscape", "internal/bytealg.MakeNoZero", "internal/bytealg.abigen_runtime_cmpstring", "slices.overlaps[tarry/api.Timer]", "slices.overlaps[string]", "slices.overlaps[tarry/api.Sub]", "slices.overlaps[tarry/api.Row]", "slices.overlaps[tarry/api.Order]"], unfollowed := true, recurses := true, apart := false }
def TopCrashesSaid : Prop := topCrashesRow.holds Tryz.pinned (OpenSpec.ofChange topCrashesSpec)

/-- ITS FALSE NEIGHBOUR: 'it returns false'. Refute it at one input. -/
def topCrashesWrong : ChangeSpec := { name := "topCrashes", fn := fun _ => fun
  | [d1, d2, d3] => { results := [.lit (.bool false)], args := [d1, d2, d3] }
  | _ => none }
def TopCrashesWrongFalsely : Prop := topCrashesRow.holds Tryz.pinned (OpenSpec.ofChange topCrashesWrong)

/- THE SECOND FORM. 'bulk': how many values and letters a reading holds, each counted each time it is reached (what is shared counts as often as it is met; a slice's spare places count too). A statement '..UptoSaid' is the law's where the arguments, and the package variables that the reading takes, are together of bulk at most 1048576: NARROWER than '..Said'. Prove '..Said' where nothing that the law and all that it calls make is longer than what came in: it says more and counts as full. Else prove '..UptoSaid'. A law counts once. -/
mutual
def uptoBulk {H : Type} : DataW H → Nat
  | .lit (.string bytes) => bytes.length + 1
  | .lit _ => 1
  | .nil => 1
  | .ptr d => uptoBulk d + 1
  | .slice elems spare => uptoBulkAll elems + uptoBulkAll spare + 1
  | .agg parts => uptoBulkAll parts + 1
  | .iface _ d => uptoBulk d + 1
  | .map entries => uptoBulkEntries entries + 1
  | .held _ => 1
def uptoBulkAll {H : Type} : List (DataW H) → Nat
  | [] => 0
  | d :: r => uptoBulk d + uptoBulkAll r
def uptoBulkEntries {H : Type} : List (Lit × DataW H) → Nat
  | [] => 0
  | x :: r => uptoBulkEntry x + uptoBulkEntries r
def uptoBulkEntry {H : Type} : Lit × DataW H → Nat
  | (.string bytes, d) => bytes.length + uptoBulk d + 1
  | (_, d) => uptoBulk d + 1
 end
def uptoSmall : (H : Type) → List (DataW H) → Bool := fun _ ds => decide (uptoBulkAll ds ≤ 1048576)
def OpenSpec.upto (s : _root_.Go.ChangeSpec) : _root_.Go.OpenSpec := { _root_.Go.OpenSpec.ofChange s with cond := some uptoSmall }

/-- 'tarrylaw19.ShopKeeps', WHERE WHAT IT READS IS OF BULK AT MOST 1048576: true; the input reads as it did. -/
def shopKeepsUptoRow : OpenClaim := { program := "ytdehaflkiobnlaagreat", sum := "c453624abbf4ba796781d7316d468e090279dd6fdff773eb0eb77aff8eb6e1ac", func := "tarry/tarrylaw19.ShopKeeps", spec := "shopKeeps", inPlace := ["internal/bytealg.abigen_runtime_cmpstring", "slices.overlaps[tarry/api.Timer]", "slices.overlaps[string]", "slices.overlaps[tarry/api.Sub]", "slices.overlaps[tarry/api.Row]", "slices.overlaps[tarry/api.Order]"], unfollowed := true, recurses := true, apart := false, narrowed := true }
def ShopKeepsUptoSaid : Prop := shopKeepsUptoRow.holds Tryz.pinned (OpenSpec.upto shopKeepsSpec)

/-- 'tarrylaw19.ShopIdle', WHERE WHAT IT READS IS OF BULK AT MOST 1048576: true; the input reads as it did. -/
def shopIdleUptoRow : OpenClaim := { program := "ytdehaflkiobnlaagreat", sum := "c453624abbf4ba796781d7316d468e090279dd6fdff773eb0eb77aff8eb6e1ac", func := "tarry/tarrylaw19.ShopIdle", spec := "shopIdle", inPlace := ["internal/bytealg.abigen_runtime_cmpstring", "slices.overlaps[tarry/api.Timer]", "slices.overlaps[string]", "slices.overlaps[tarry/api.Sub]", "slices.overlaps[tarry/api.Row]", "slices.overlaps[tarry/api.Order]"], unfollowed := true, recurses := true, apart := false, narrowed := true }
def ShopIdleUptoSaid : Prop := shopIdleUptoRow.holds Tryz.pinned (OpenSpec.upto shopIdleSpec)

/-- 'tarrylaw19.ShopEmpties', WHERE WHAT IT READS IS OF BULK AT MOST 1048576: true; the input reads as it did. -/
def shopEmptiesUptoRow : OpenClaim := { program := "ytdehaflkiobnlaagreat", sum := "c453624abbf4ba796781d7316d468e090279dd6fdff773eb0eb77aff8eb6e1ac", func := "tarry/tarrylaw19.ShopEmpties", spec := "shopEmpties", inPlace := ["internal/bytealg.abigen_runtime_cmpstring", "slices.overlaps[tarry/api.Timer]", "slices.overlaps[string]", "slices.overlaps[tarry/api.Sub]", "slices.overlaps[tarry/api.Row]", "slices.overlaps[tarry/api.Order]"], unfollowed := true, recurses := true, apart := false, narrowed := true }
def ShopEmptiesUptoSaid : Prop := shopEmptiesUptoRow.holds Tryz.pinned (OpenSpec.upto shopEmptiesSpec)

/-- 'tarrylaw19.ShopTexts', WHERE WHAT IT READS IS OF BULK AT MOST 1048576: true; the input reads as it did. -/
def shopTextsUptoRow : OpenClaim := { program := "ytdehaflkiobnlaagreat", sum := "c453624abbf4ba796781d7316d468e090279dd6fdff773eb0eb77aff8eb6e1ac", func := "tarry/tarrylaw19.ShopTexts", spec := "shopTexts", inPlace := ["internal/bytealg.abigen_runtime_cmpstring", "internal/abi.NoEscape", "slices.overlaps[tarry/api.Timer]", "slices.overlaps[string]", "slices.overlaps[tarry/api.Sub]", "slices.overlaps[tarry/api.Row]", "slices.overlaps[tarry/api.Order]"], unfollowed := true, recurses := true, apart := false, narrowed := true }
def ShopTextsUptoSaid : Prop := shopTextsUptoRow.holds Tryz.pinned (OpenSpec.upto shopTextsSpec)

/-- 'tarrylaw19.ShopBack', WHERE WHAT IT READS IS OF BULK AT MOST 1048576: true; the input reads as it did. -/
def shopBackUptoRow : OpenClaim := { program := "ytdehaflkiobnlaagreat", sum := "c453624abbf4ba796781d7316d468e090279dd6fdff773eb0eb77aff8eb6e1ac", func := "tarry/tarrylaw19.ShopBack", spec := "shopBack", inPlace := ["internal/bytealg.abigen_runtime_cmpstring", "internal/abi.NoEscape", "slices.overlaps[tarry/api.Timer]", "slices.overlaps[string]", "slices.overlaps[tarry/api.Sub]", "slices.overlaps[tarry/api.Row]", "slices.overlaps[tarry/api.Order]"], unfollowed := true, recurses := true, apart := false, narrowed := true }
def ShopBackUptoSaid : Prop := shopBackUptoRow.holds Tryz.pinned (OpenSpec.upto shopBackSpec)

/-- 'tarrylaw20.StoreReplays', WHERE WHAT IT READS IS OF BULK AT MOST 1048576: true; the input reads as it did. -/
def storeReplaysUptoRow : OpenClaim := { program := "ytdehaflkiobnlaagreat", sum := "c453624abbf4ba796781d7316d468e090279dd6fdff773eb0eb77aff8eb6e1ac", func := "tarry/tarrylaw20.StoreReplays", spec := "storeReplays", inPlace := ["internal/abi.NoEscape", "internal/bytealg.MakeNoZero", "internal/bytealg.abigen_runtime_cmpstring", "slices.overlaps[tarry/api.Timer]", "slices.overlaps[string]", "slices.overlaps[tarry/api.Sub]", "slices.overlaps[tarry/api.Row]", "slices.overlaps[tarry/api.Order]"], unfollowed := true, recurses := true, apart := false, narrowed := true }
def StoreReplaysUptoSaid : Prop := storeReplaysUptoRow.holds Tryz.pinned (OpenSpec.upto storeReplaysSpec)

/-- 'tarrytop.TopEnds', WHERE WHAT IT READS IS OF BULK AT MOST 1048576: true; the input reads as it did. -/
def topEndsUptoRow : OpenClaim := { program := "ytdehaflkiobnlaagreat", sum := "c453624abbf4ba796781d7316d468e090279dd6fdff773eb0eb77aff8eb6e1ac", func := "tarry/tarrytop.TopEnds", spec := "topEnds", inPlace := ["internal/bytealg.abigen_runtime_cmpstring", "slices.overlaps[tarry/api.Timer]", "slices.overlaps[string]", "slices.overlaps[tarry/api.Sub]", "slices.overlaps[tarry/api.Row]", "slices.overlaps[tarry/api.Order]"], unfollowed := true, recurses := true, apart := false, narrowed := true }
def TopEndsUptoSaid : Prop := topEndsUptoRow.holds Tryz.pinned (OpenSpec.upto topEndsSpec)

/-- 'tarrylaw20.StoreOpens', WHERE WHAT IT READS IS OF BULK AT MOST 1048576: true; the input reads as it did. -/
def storeOpensUptoRow : OpenClaim := { program := "ytdehaflkiobnlaagreat", sum := "c453624abbf4ba796781d7316d468e090279dd6fdff773eb0eb77aff8eb6e1ac", func := "tarry/tarrylaw20.StoreOpens", spec := "storeOpens", inPlace := ["internal/abi.NoEscape", "internal/bytealg.MakeNoZero", "internal/bytealg.abigen_runtime_cmpstring", "slices.overlaps[tarry/api.Timer]", "slices.overlaps[string]", "slices.overlaps[tarry/api.Sub]", "slices.overlaps[tarry/api.Row]", "slices.overlaps[tarry/api.Order]"], unfollowed := true, recurses := true, apart := false, narrowed := true }
def StoreOpensUptoSaid : Prop := storeOpensUptoRow.holds Tryz.pinned (OpenSpec.upto storeOpensSpec)

/-- 'tarrylaw20.StoreDoes', WHERE WHAT IT READS IS OF BULK AT MOST 1048576: true; the input reads as it did. -/
def storeDoesUptoRow : OpenClaim := { program := "ytdehaflkiobnlaagreat", sum := "c453624abbf4ba796781d7316d468e090279dd6fdff773eb0eb77aff8eb6e1ac", func := "tarry/tarrylaw20.StoreDoes", spec := "storeDoes", inPlace := ["internal/abi.NoEscape", "internal/bytealg.MakeNoZero", "internal/bytealg.abigen_runtime_cmpstring", "slices.overlaps[tarry/api.Timer]", "slices.overlaps[string]", "slices.overlaps[tarry/api.Sub]", "slices.overlaps[tarry/api.Row]", "slices.overlaps[tarry/api.Order]"], unfollowed := true, recurses := true, apart := false, narrowed := true }
def StoreDoesUptoSaid : Prop := storeDoesUptoRow.holds Tryz.pinned (OpenSpec.upto storeDoesSpec)

/-- 'tarrytop.TopShips', WHERE WHAT IT READS IS OF BULK AT MOST 1048576: true; the input reads as it did. -/
def topShipsUptoRow : OpenClaim := { program := "ytdehaflkiobnlaagreat", sum := "c453624abbf4ba796781d7316d468e090279dd6fdff773eb0eb77aff8eb6e1ac", func := "tarry/tarrytop.TopShips", spec := "topShips", inPlace := ["internal/bytealg.abigen_runtime_cmpstring", "slices.overlaps[tarry/api.Timer]", "slices.overlaps[string]", "slices.overlaps[tarry/api.Sub]", "slices.overlaps[tarry/api.Row]", "slices.overlaps[tarry/api.Order]"], unfollowed := true, recurses := true, apart := false, narrowed := true }
def TopShipsUptoSaid : Prop := topShipsUptoRow.holds Tryz.pinned (OpenSpec.upto topShipsSpec)

/-- 'tarrylaw20.StorePasses', WHERE WHAT IT READS IS OF BULK AT MOST 1048576: true; the input reads as it did. -/
def storePassesUptoRow : OpenClaim := { program := "ytdehaflkiobnlaagreat", sum := "c453624abbf4ba796781d7316d468e090279dd6fdff773eb0eb77aff8eb6e1ac", func := "tarry/tarrylaw20.StorePasses", spec := "storePasses", inPlace := ["internal/abi.NoEscape", "internal/bytealg.MakeNoZero", "internal/bytealg.abigen_runtime_cmpstring", "slices.overlaps[tarry/api.Timer]", "slices.overlaps[string]", "slices.overlaps[tarry/api.Sub]", "slices.overlaps[tarry/api.Row]", "slices.overlaps[tarry/api.Order]"], unfollowed := true, recurses := true, apart := false, narrowed := true }
def StorePassesUptoSaid : Prop := storePassesUptoRow.holds Tryz.pinned (OpenSpec.upto storePassesSpec)

/-- 'tarrylaw20.StoreTwice', WHERE WHAT IT READS IS OF BULK AT MOST 1048576: true; the input reads as it did. -/
def storeTwiceUptoRow : OpenClaim := { program := "ytdehaflkiobnlaagreat", sum := "c453624abbf4ba796781d7316d468e090279dd6fdff773eb0eb77aff8eb6e1ac", func := "tarry/tarrylaw20.StoreTwice", spec := "storeTwice", inPlace := ["internal/abi.NoEscape", "internal/bytealg.MakeNoZero", "internal/bytealg.abigen_runtime_cmpstring", "slices.overlaps[tarry/api.Timer]", "slices.overlaps[string]", "slices.overlaps[tarry/api.Sub]", "slices.overlaps[tarry/api.Row]", "slices.overlaps[tarry/api.Order]"], unfollowed := true, recurses := true, apart := false, narrowed := true }
def StoreTwiceUptoSaid : Prop := storeTwiceUptoRow.holds Tryz.pinned (OpenSpec.upto storeTwiceSpec)

/-- 'tarrytop.TopWaits', WHERE WHAT IT READS IS OF BULK AT MOST 1048576: true; the input reads as it did. -/
def topWaitsUptoRow : OpenClaim := { program := "ytdehaflkiobnlaagreat", sum := "c453624abbf4ba796781d7316d468e090279dd6fdff773eb0eb77aff8eb6e1ac", func := "tarry/tarrytop.TopWaits", spec := "topWaits", inPlace := ["internal/bytealg.abigen_runtime_cmpstring", "slices.overlaps[tarry/api.Timer]", "slices.overlaps[string]", "slices.overlaps[tarry/api.Sub]", "slices.overlaps[tarry/api.Row]", "slices.overlaps[tarry/api.Order]"], unfollowed := true, recurses := true, apart := false, narrowed := true }
def TopWaitsUptoSaid : Prop := topWaitsUptoRow.holds Tryz.pinned (OpenSpec.upto topWaitsSpec)

/-- 'tarrylaw20.StoreSeals', WHERE WHAT IT READS IS OF BULK AT MOST 1048576: true; the input reads as it did. -/
def storeSealsUptoRow : OpenClaim := { program := "ytdehaflkiobnlaagreat", sum := "c453624abbf4ba796781d7316d468e090279dd6fdff773eb0eb77aff8eb6e1ac", func := "tarry/tarrylaw20.StoreSeals", spec := "storeSeals", inPlace := ["internal/abi.NoEscape", "internal/bytealg.MakeNoZero", "internal/bytealg.abigen_runtime_cmpstring", "slices.overlaps[tarry/api.Timer]", "slices.overlaps[string]", "slices.overlaps[tarry/api.Sub]", "slices.overlaps[tarry/api.Row]", "slices.overlaps[tarry/api.Order]"], unfollowed := true, recurses := true, apart := false, narrowed := true }
def StoreSealsUptoSaid : Prop := storeSealsUptoRow.holds Tryz.pinned (OpenSpec.upto storeSealsSpec)

/-- 'tarrylaw20.StoreLives', WHERE WHAT IT READS IS OF BULK AT MOST 1048576: true; the input reads as it did. -/
def storeLivesUptoRow : OpenClaim := { program := "ytdehaflkiobnlaagreat", sum := "c453624abbf4ba796781d7316d468e090279dd6fdff773eb0eb77aff8eb6e1ac", func := "tarry/tarrylaw20.StoreLives", spec := "storeLives", inPlace := ["internal/abi.NoEscape", "internal/bytealg.MakeNoZero", "internal/bytealg.abigen_runtime_cmpstring", "slices.overlaps[tarry/api.Timer]", "slices.overlaps[string]", "slices.overlaps[tarry/api.Sub]", "slices.overlaps[tarry/api.Row]", "slices.overlaps[tarry/api.Order]"], unfollowed := true, recurses := true, apart := false, narrowed := true }
def StoreLivesUptoSaid : Prop := storeLivesUptoRow.holds Tryz.pinned (OpenSpec.upto storeLivesSpec)

/-- 'tarrylaw21.ScriptRuns', WHERE WHAT IT READS IS OF BULK AT MOST 1048576: true; the input reads as it did. -/
def scriptRunsUptoRow : OpenClaim := { program := "ytdehaflkiobnlaagreat", sum := "c453624abbf4ba796781d7316d468e090279dd6fdff773eb0eb77aff8eb6e1ac", func := "tarry/tarrylaw21.ScriptRuns", spec := "scriptRuns", inPlace := ["internal/abi.NoEscape", "internal/bytealg.MakeNoZero", "internal/bytealg.abigen_runtime_cmpstring", "slices.overlaps[tarry/api.Timer]", "slices.overlaps[string]", "slices.overlaps[tarry/api.Sub]", "slices.overlaps[tarry/api.Row]", "slices.overlaps[tarry/api.Order]"], unfollowed := true, recurses := true, apart := false, narrowed := true }
def ScriptRunsUptoSaid : Prop := scriptRunsUptoRow.holds Tryz.pinned (OpenSpec.upto scriptRunsSpec)

/-- 'tarrylaw21.ScriptParts', WHERE WHAT IT READS IS OF BULK AT MOST 1048576: true; the input reads as it did. -/
def scriptPartsUptoRow : OpenClaim := { program := "ytdehaflkiobnlaagreat", sum := "c453624abbf4ba796781d7316d468e090279dd6fdff773eb0eb77aff8eb6e1ac", func := "tarry/tarrylaw21.ScriptParts", spec := "scriptParts", inPlace := ["internal/abi.NoEscape", "internal/bytealg.MakeNoZero", "internal/bytealg.abigen_runtime_cmpstring", "slices.overlaps[tarry/api.Timer]", "slices.overlaps[string]", "slices.overlaps[tarry/api.Sub]", "slices.overlaps[tarry/api.Row]", "slices.overlaps[tarry/api.Order]"], unfollowed := true, recurses := true, apart := false, narrowed := true }
def ScriptPartsUptoSaid : Prop := scriptPartsUptoRow.holds Tryz.pinned (OpenSpec.upto scriptPartsSpec)

/-- 'tarrytop.TopFair', WHERE WHAT IT READS IS OF BULK AT MOST 1048576: true; the input reads as it did. -/
def topFairUptoRow : OpenClaim := { program := "ytdehaflkiobnlaagreat", sum := "c453624abbf4ba796781d7316d468e090279dd6fdff773eb0eb77aff8eb6e1ac", func := "tarry/tarrytop.TopFair", spec := "topFair", inPlace := ["internal/bytealg.abigen_runtime_cmpstring", "slices.overlaps[tarry/api.Timer]", "slices.overlaps[string]", "slices.overlaps[tarry/api.Sub]", "slices.overlaps[tarry/api.Row]", "slices.overlaps[tarry/api.Order]"], unfollowed := true, recurses := true, apart := false, narrowed := true }
def TopFairUptoSaid : Prop := topFairUptoRow.holds Tryz.pinned (OpenSpec.upto topFairSpec)

/-- 'tarrytop.TopIndexes', WHERE WHAT IT READS IS OF BULK AT MOST 1048576: true; the input reads as it did. -/
def topIndexesUptoRow : OpenClaim := { program := "ytdehaflkiobnlaagreat", sum := "c453624abbf4ba796781d7316d468e090279dd6fdff773eb0eb77aff8eb6e1ac", func := "tarry/tarrytop.TopIndexes", spec := "topIndexes", inPlace := ["internal/bytealg.abigen_runtime_cmpstring", "slices.overlaps[tarry/api.Timer]", "slices.overlaps[string]", "slices.overlaps[tarry/api.Sub]", "slices.overlaps[tarry/api.Row]", "slices.overlaps[tarry/api.Order]", "internal/abi.NoEscape"], unfollowed := true, recurses := true, apart := false, narrowed := true }
def TopIndexesUptoSaid : Prop := topIndexesUptoRow.holds Tryz.pinned (OpenSpec.upto topIndexesSpec)

/-- 'tarrytop.TopCrashes', WHERE WHAT IT READS IS OF BULK AT MOST 1048576: true; the input reads as it did. -/
def topCrashesUptoRow : OpenClaim := { program := "ytdehaflkiobnlaagreat", sum := "c453624abbf4ba796781d7316d468e090279dd6fdff773eb0eb77aff8eb6e1ac", func := "tarry/tarrytop.TopCrashes", spec := "topCrashes", inPlace := ["internal/abi.NoEscape", "internal/bytealg.MakeNoZero", "internal/bytealg.abigen_runtime_cmpstring", "slices.overlaps[tarry/api.Timer]", "slices.overlaps[string]", "slices.overlaps[tarry/api.Sub]", "slices.overlaps[tarry/api.Row]", "slices.overlaps[tarry/api.Order]"], unfollowed := true, recurses := true, apart := false, narrowed := true }
def TopCrashesUptoSaid : Prop := topCrashesUptoRow.holds Tryz.pinned (OpenSpec.upto topCrashesSpec)

end Rows
end Go.Proofs.YtdehaflkiobnlaaGreat
