/-
  No cell of these rows narrows 'for every input' (looked for: loops, veiled, ifaces, maps, wideKeys, modest, calm, conditions, laid).
  DERIVED. THE GIVEN ROWS OF THIS SEAT. 20 by the template 'for every input the law returns true; each argument reads behind the call as it read before'; 0 by the template 'total and deterministic' (their statements: YtkidnomkfdnciaaTotals.lean).
  GIVEN WITH THE SEED: the statements are not yours to turn. If you find one false, say at which input.
  Laid BY PROGRAM, IN A SANDBOX (cutbox-rows.mjs): the forced cells as the released guide's own fill.sh prints them over the translation 84b66b76bafb281a… (all of the seat's roots in one cut). By AI agents, Wed Nov 11 2026. No macro, syntax, notation, axiom, sorry.
-/
import Derived.Test.YtkidnomkfdnciaaChecked
import GoSem.Claim
import GoSem.ClaimJoined
import GoSem.ClaimMapViews
import Derived.JoinedTies
import Derived.KernelRfl
namespace Go.Proofs.Ytkidnomkfdnciaa
/- THE CELL 'sum', in the pinned program and in every row, IS THE sha256 OF THE DUMP (.gsa) THAT YtkidnomkfdnciaaProg.lean LOADS. Nothing in Lean hashes anything: it is a label: what it is worth is what the hold of that sum in a sandbox is worth. -/
noncomputable def Try.pinned : Pinned := { name := "ytkidnomkfdnciaa", sum := "84b66b76bafb281a87812208ca362d50bb47da8fe7fb48973d1aa304f045828a", checked := Try.checked }
namespace Rows
def none {H : Type} : Left H := { results := [], args := [] }

/-- 'roadbooklaw15.SetsJoin': WHATEVER THE INPUT: true; the input reads as it did. -/
def setsJoinSpec : ChangeSpec := { name := "setsJoin", fn := fun _ => fun
  | [d1, d2, d3, d4, d5] => { results := [.lit (.bool true)], args := [d1, d2, d3, d4, d5] }
  | _ => none }
def setsJoinRow : OpenClaim := { program := "ytkidnomkfdnciaa", sum := "84b66b76bafb281a87812208ca362d50bb47da8fe7fb48973d1aa304f045828a", func := "roadbook/roadbooklaw15.SetsJoin", spec := "setsJoin", plainKeys := false, apart := false }
def SetsJoinSaid : Prop := setsJoinRow.holds Try.pinned (OpenSpec.ofChange setsJoinSpec)

/-- ITS FALSE NEIGHBOUR: 'it returns false'. Refute it at one input. -/
def setsJoinWrong : ChangeSpec := { name := "setsJoin", fn := fun _ => fun
  | [d1, d2, d3, d4, d5] => { results := [.lit (.bool false)], args := [d1, d2, d3, d4, d5] }
  | _ => none }
def SetsJoinWrongFalsely : Prop := setsJoinRow.holds Try.pinned (OpenSpec.ofChange setsJoinWrong)

/-- 'roadbooklaw15.SetsOrder': WHATEVER THE INPUT: true; the input reads as it did. -/
def setsOrderSpec : ChangeSpec := { name := "setsOrder", fn := fun _ => fun
  | [d1, d2, d3, d4, d5] => { results := [.lit (.bool true)], args := [d1, d2, d3, d4, d5] }
  | _ => none }
def setsOrderRow : OpenClaim := { program := "ytkidnomkfdnciaa", sum := "84b66b76bafb281a87812208ca362d50bb47da8fe7fb48973d1aa304f045828a", func := "roadbook/roadbooklaw15.SetsOrder", spec := "setsOrder", plainKeys := false, apart := false }
def SetsOrderSaid : Prop := setsOrderRow.holds Try.pinned (OpenSpec.ofChange setsOrderSpec)

/-- ITS FALSE NEIGHBOUR: 'it returns false'. Refute it at one input. -/
def setsOrderWrong : ChangeSpec := { name := "setsOrder", fn := fun _ => fun
  | [d1, d2, d3, d4, d5] => { results := [.lit (.bool false)], args := [d1, d2, d3, d4, d5] }
  | _ => none }
def SetsOrderWrongFalsely : Prop := setsOrderRow.holds Try.pinned (OpenSpec.ofChange setsOrderWrong)

/-- 'roadbooklaw15.SetsMay': WHATEVER THE INPUT: true; the input reads as it did. -/
def setsMaySpec : ChangeSpec := { name := "setsMay", fn := fun _ => fun
  | [d1, d2, d3, d4] => { results := [.lit (.bool true)], args := [d1, d2, d3, d4] }
  | _ => none }
def setsMayRow : OpenClaim := { program := "ytkidnomkfdnciaa", sum := "84b66b76bafb281a87812208ca362d50bb47da8fe7fb48973d1aa304f045828a", func := "roadbook/roadbooklaw15.SetsMay", spec := "setsMay", plainKeys := false, apart := false }
def SetsMaySaid : Prop := setsMayRow.holds Try.pinned (OpenSpec.ofChange setsMaySpec)

/-- ITS FALSE NEIGHBOUR: 'it returns false'. Refute it at one input. -/
def setsMayWrong : ChangeSpec := { name := "setsMay", fn := fun _ => fun
  | [d1, d2, d3, d4] => { results := [.lit (.bool false)], args := [d1, d2, d3, d4] }
  | _ => none }
def SetsMayWrongFalsely : Prop := setsMayRow.holds Try.pinned (OpenSpec.ofChange setsMayWrong)

/-- 'roadbooklaw15.SetsTell': WHATEVER THE INPUT: true; the input reads as it did. -/
def setsTellSpec : ChangeSpec := { name := "setsTell", fn := fun _ => fun
  | [d1, d2, d3, d4] => { results := [.lit (.bool true)], args := [d1, d2, d3, d4] }
  | _ => none }
def setsTellRow : OpenClaim := { program := "ytkidnomkfdnciaa", sum := "84b66b76bafb281a87812208ca362d50bb47da8fe7fb48973d1aa304f045828a", func := "roadbook/roadbooklaw15.SetsTell", spec := "setsTell", plainKeys := false, apart := false }
def SetsTellSaid : Prop := setsTellRow.holds Try.pinned (OpenSpec.ofChange setsTellSpec)

/-- ITS FALSE NEIGHBOUR: 'it returns false'. Refute it at one input. -/
def setsTellWrong : ChangeSpec := { name := "setsTell", fn := fun _ => fun
  | [d1, d2, d3, d4] => { results := [.lit (.bool false)], args := [d1, d2, d3, d4] }
  | _ => none }
def SetsTellWrongFalsely : Prop := setsTellRow.holds Try.pinned (OpenSpec.ofChange setsTellWrong)

/-- 'roadbooklaw15.SetsLeast': WHATEVER THE INPUT: true; the input reads as it did. -/
def setsLeastSpec : ChangeSpec := { name := "setsLeast", fn := fun _ => fun
  | [d1, d2] => { results := [.lit (.bool true)], args := [d1, d2] }
  | _ => none }
def setsLeastRow : OpenClaim := { program := "ytkidnomkfdnciaa", sum := "84b66b76bafb281a87812208ca362d50bb47da8fe7fb48973d1aa304f045828a", func := "roadbook/roadbooklaw15.SetsLeast", spec := "setsLeast", plainKeys := false, apart := false }
def SetsLeastSaid : Prop := setsLeastRow.holds Try.pinned (OpenSpec.ofChange setsLeastSpec)

/-- ITS FALSE NEIGHBOUR: 'it returns false'. Refute it at one input. -/
def setsLeastWrong : ChangeSpec := { name := "setsLeast", fn := fun _ => fun
  | [d1, d2] => { results := [.lit (.bool false)], args := [d1, d2] }
  | _ => none }
def SetsLeastWrongFalsely : Prop := setsLeastRow.holds Try.pinned (OpenSpec.ofChange setsLeastWrong)

/-- 'roadbooklaw15.SetsSame': WHATEVER THE INPUT: true; the input reads as it did. -/
def setsSameSpec : ChangeSpec := { name := "setsSame", fn := fun _ => fun
  | [d1, d2, d3, d4] => { results := [.lit (.bool true)], args := [d1, d2, d3, d4] }
  | _ => none }
def setsSameRow : OpenClaim := { program := "ytkidnomkfdnciaa", sum := "84b66b76bafb281a87812208ca362d50bb47da8fe7fb48973d1aa304f045828a", func := "roadbook/roadbooklaw15.SetsSame", spec := "setsSame", plainKeys := false, apart := false }
def SetsSameSaid : Prop := setsSameRow.holds Try.pinned (OpenSpec.ofChange setsSameSpec)

/-- ITS FALSE NEIGHBOUR: 'it returns false'. Refute it at one input. -/
def setsSameWrong : ChangeSpec := { name := "setsSame", fn := fun _ => fun
  | [d1, d2, d3, d4] => { results := [.lit (.bool false)], args := [d1, d2, d3, d4] }
  | _ => none }
def SetsSameWrongFalsely : Prop := setsSameRow.holds Try.pinned (OpenSpec.ofChange setsSameWrong)

/-- 'roadbooklaw16.MemoMust': WHATEVER THE INPUT: true; the input reads as it did. -/
def memoMustSpec : ChangeSpec := { name := "memoMust", fn := fun _ => fun
  | [d1, d2, d3, d4] => { results := [.lit (.bool true)], args := [d1, d2, d3, d4] }
  | _ => none }
def memoMustRow : OpenClaim := { program := "ytkidnomkfdnciaa", sum := "84b66b76bafb281a87812208ca362d50bb47da8fe7fb48973d1aa304f045828a", func := "roadbook/roadbooklaw16.MemoMust", spec := "memoMust", unfollowed := true, recurses := true, plainKeys := false, apart := false }
def MemoMustSaid : Prop := memoMustRow.holds Try.pinned (OpenSpec.ofChange memoMustSpec)

/-- ITS FALSE NEIGHBOUR: 'it returns false'. Refute it at one input. -/
def memoMustWrong : ChangeSpec := { name := "memoMust", fn := fun _ => fun
  | [d1, d2, d3, d4] => { results := [.lit (.bool false)], args := [d1, d2, d3, d4] }
  | _ => none }
def MemoMustWrongFalsely : Prop := memoMustRow.holds Try.pinned (OpenSpec.ofChange memoMustWrong)

/-- 'roadbooklaw16.MemoOf': WHATEVER THE INPUT: true; the input reads as it did. -/
def memoOfSpec : ChangeSpec := { name := "memoOf", fn := fun _ => fun
  | [d1, d2, d3] => { results := [.lit (.bool true)], args := [d1, d2, d3] }
  | _ => none }
def memoOfRow : OpenClaim := { program := "ytkidnomkfdnciaa", sum := "84b66b76bafb281a87812208ca362d50bb47da8fe7fb48973d1aa304f045828a", func := "roadbook/roadbooklaw16.MemoOf", spec := "memoOf", unfollowed := true, recurses := true, plainKeys := false, apart := false }
def MemoOfSaid : Prop := memoOfRow.holds Try.pinned (OpenSpec.ofChange memoOfSpec)

/-- ITS FALSE NEIGHBOUR: 'it returns false'. Refute it at one input. -/
def memoOfWrong : ChangeSpec := { name := "memoOf", fn := fun _ => fun
  | [d1, d2, d3] => { results := [.lit (.bool false)], args := [d1, d2, d3] }
  | _ => none }
def MemoOfWrongFalsely : Prop := memoOfRow.holds Try.pinned (OpenSpec.ofChange memoOfWrong)

/-- 'roadbooklaw16.MemoLook': WHATEVER THE INPUT: true; the input reads as it did. -/
def memoLookSpec : ChangeSpec := { name := "memoLook", fn := fun _ => fun
  | [d1, d2, d3, d4] => { results := [.lit (.bool true)], args := [d1, d2, d3, d4] }
  | _ => none }
def memoLookRow : OpenClaim := { program := "ytkidnomkfdnciaa", sum := "84b66b76bafb281a87812208ca362d50bb47da8fe7fb48973d1aa304f045828a", func := "roadbook/roadbooklaw16.MemoLook", spec := "memoLook", unfollowed := true, recurses := true, plainKeys := false, apart := false }
def MemoLookSaid : Prop := memoLookRow.holds Try.pinned (OpenSpec.ofChange memoLookSpec)

/-- ITS FALSE NEIGHBOUR: 'it returns false'. Refute it at one input. -/
def memoLookWrong : ChangeSpec := { name := "memoLook", fn := fun _ => fun
  | [d1, d2, d3, d4] => { results := [.lit (.bool false)], args := [d1, d2, d3, d4] }
  | _ => none }
def MemoLookWrongFalsely : Prop := memoLookRow.holds Try.pinned (OpenSpec.ofChange memoLookWrong)

/-- 'roadbooklaw16.MemoOrder': WHATEVER THE INPUT: true; the input reads as it did. -/
def memoOrderSpec : ChangeSpec := { name := "memoOrder", fn := fun _ => fun
  | [d1, d2, d3, d4, d5] => { results := [.lit (.bool true)], args := [d1, d2, d3, d4, d5] }
  | _ => none }
def memoOrderRow : OpenClaim := { program := "ytkidnomkfdnciaa", sum := "84b66b76bafb281a87812208ca362d50bb47da8fe7fb48973d1aa304f045828a", func := "roadbook/roadbooklaw16.MemoOrder", spec := "memoOrder", unfollowed := true, recurses := true, plainKeys := false, apart := false }
def MemoOrderSaid : Prop := memoOrderRow.holds Try.pinned (OpenSpec.ofChange memoOrderSpec)

/-- ITS FALSE NEIGHBOUR: 'it returns false'. Refute it at one input. -/
def memoOrderWrong : ChangeSpec := { name := "memoOrder", fn := fun _ => fun
  | [d1, d2, d3, d4, d5] => { results := [.lit (.bool false)], args := [d1, d2, d3, d4, d5] }
  | _ => none }
def MemoOrderWrongFalsely : Prop := memoOrderRow.holds Try.pinned (OpenSpec.ofChange memoOrderWrong)

/-- 'roadbooklaw16.MemoTells': WHATEVER THE INPUT: true; the input reads as it did. -/
def memoTellsSpec : ChangeSpec := { name := "memoTells", fn := fun _ => fun
  | [d1, d2, d3, d4, d5] => { results := [.lit (.bool true)], args := [d1, d2, d3, d4, d5] }
  | _ => none }
def memoTellsRow : OpenClaim := { program := "ytkidnomkfdnciaa", sum := "84b66b76bafb281a87812208ca362d50bb47da8fe7fb48973d1aa304f045828a", func := "roadbook/roadbooklaw16.MemoTells", spec := "memoTells", unfollowed := true, recurses := true, plainKeys := false, apart := false }
def MemoTellsSaid : Prop := memoTellsRow.holds Try.pinned (OpenSpec.ofChange memoTellsSpec)

/-- ITS FALSE NEIGHBOUR: 'it returns false'. Refute it at one input. -/
def memoTellsWrong : ChangeSpec := { name := "memoTells", fn := fun _ => fun
  | [d1, d2, d3, d4, d5] => { results := [.lit (.bool false)], args := [d1, d2, d3, d4, d5] }
  | _ => none }
def MemoTellsWrongFalsely : Prop := memoTellsRow.holds Try.pinned (OpenSpec.ofChange memoTellsWrong)

/-- 'roadbooklaw16.MemoPuts': WHATEVER THE INPUT: true; the input reads as it did. -/
def memoPutsSpec : ChangeSpec := { name := "memoPuts", fn := fun _ => fun
  | [d1, d2, d3] => { results := [.lit (.bool true)], args := [d1, d2, d3] }
  | _ => none }
def memoPutsRow : OpenClaim := { program := "ytkidnomkfdnciaa", sum := "84b66b76bafb281a87812208ca362d50bb47da8fe7fb48973d1aa304f045828a", func := "roadbook/roadbooklaw16.MemoPuts", spec := "memoPuts", unfollowed := true, recurses := true, plainKeys := false, apart := false }
def MemoPutsSaid : Prop := memoPutsRow.holds Try.pinned (OpenSpec.ofChange memoPutsSpec)

/-- ITS FALSE NEIGHBOUR: 'it returns false'. Refute it at one input. -/
def memoPutsWrong : ChangeSpec := { name := "memoPuts", fn := fun _ => fun
  | [d1, d2, d3] => { results := [.lit (.bool false)], args := [d1, d2, d3] }
  | _ => none }
def MemoPutsWrongFalsely : Prop := memoPutsRow.holds Try.pinned (OpenSpec.ofChange memoPutsWrong)

/-- 'roadbooklaw16.MemoOne': WHATEVER THE INPUT: true; the input reads as it did. -/
def memoOneSpec : ChangeSpec := { name := "memoOne", fn := fun _ => fun
  | [d1, d2, d3, d4] => { results := [.lit (.bool true)], args := [d1, d2, d3, d4] }
  | _ => none }
def memoOneRow : OpenClaim := { program := "ytkidnomkfdnciaa", sum := "84b66b76bafb281a87812208ca362d50bb47da8fe7fb48973d1aa304f045828a", func := "roadbook/roadbooklaw16.MemoOne", spec := "memoOne", unfollowed := true, recurses := true, plainKeys := false, apart := false }
def MemoOneSaid : Prop := memoOneRow.holds Try.pinned (OpenSpec.ofChange memoOneSpec)

/-- ITS FALSE NEIGHBOUR: 'it returns false'. Refute it at one input. -/
def memoOneWrong : ChangeSpec := { name := "memoOne", fn := fun _ => fun
  | [d1, d2, d3, d4] => { results := [.lit (.bool false)], args := [d1, d2, d3, d4] }
  | _ => none }
def MemoOneWrongFalsely : Prop := memoOneRow.holds Try.pinned (OpenSpec.ofChange memoOneWrong)

/-- 'roadbooklaw20.CallsReal': WHATEVER THE INPUT: true; the input reads as it did. -/
def callsRealSpec : ChangeSpec := { name := "callsReal", fn := fun _ => fun
  | [d1, d2, d3] => { results := [.lit (.bool true)], args := [d1, d2, d3] }
  | _ => none }
def callsRealRow : OpenClaim := { program := "ytkidnomkfdnciaa", sum := "84b66b76bafb281a87812208ca362d50bb47da8fe7fb48973d1aa304f045828a", func := "roadbook/roadbooklaw20.CallsReal", spec := "callsReal", unfollowed := true, recurses := true, plainKeys := false, apart := false }
def CallsRealSaid : Prop := callsRealRow.holds Try.pinned (OpenSpec.ofChange callsRealSpec)

/-- ITS FALSE NEIGHBOUR: 'it returns false'. Refute it at one input. -/
def callsRealWrong : ChangeSpec := { name := "callsReal", fn := fun _ => fun
  | [d1, d2, d3] => { results := [.lit (.bool false)], args := [d1, d2, d3] }
  | _ => none }
def CallsRealWrongFalsely : Prop := callsRealRow.holds Try.pinned (OpenSpec.ofChange callsRealWrong)

/-- 'roadbooklaw20.CallsKeep': WHATEVER THE INPUT: true; the input reads as it did. -/
def callsKeepSpec : ChangeSpec := { name := "callsKeep", fn := fun _ => fun
  | [d1, d2, d3, d4, d5] => { results := [.lit (.bool true)], args := [d1, d2, d3, d4, d5] }
  | _ => none }
def callsKeepRow : OpenClaim := { program := "ytkidnomkfdnciaa", sum := "84b66b76bafb281a87812208ca362d50bb47da8fe7fb48973d1aa304f045828a", func := "roadbook/roadbooklaw20.CallsKeep", spec := "callsKeep", unfollowed := true, recurses := true, plainKeys := false, apart := false }
def CallsKeepSaid : Prop := callsKeepRow.holds Try.pinned (OpenSpec.ofChange callsKeepSpec)

/-- ITS FALSE NEIGHBOUR: 'it returns false'. Refute it at one input. -/
def callsKeepWrong : ChangeSpec := { name := "callsKeep", fn := fun _ => fun
  | [d1, d2, d3, d4, d5] => { results := [.lit (.bool false)], args := [d1, d2, d3, d4, d5] }
  | _ => none }
def CallsKeepWrongFalsely : Prop := callsKeepRow.holds Try.pinned (OpenSpec.ofChange callsKeepWrong)

/-- 'roadbooklaw20.CallsRead': WHATEVER THE INPUT: true; the input reads as it did. -/
def callsReadSpec : ChangeSpec := { name := "callsRead", fn := fun _ => fun
  | [d1, d2, d3] => { results := [.lit (.bool true)], args := [d1, d2, d3] }
  | _ => none }
def callsReadRow : OpenClaim := { program := "ytkidnomkfdnciaa", sum := "84b66b76bafb281a87812208ca362d50bb47da8fe7fb48973d1aa304f045828a", func := "roadbook/roadbooklaw20.CallsRead", spec := "callsRead", unfollowed := true, recurses := true, plainKeys := false, apart := false }
def CallsReadSaid : Prop := callsReadRow.holds Try.pinned (OpenSpec.ofChange callsReadSpec)

/-- ITS FALSE NEIGHBOUR: 'it returns false'. Refute it at one input. -/
def callsReadWrong : ChangeSpec := { name := "callsRead", fn := fun _ => fun
  | [d1, d2, d3] => { results := [.lit (.bool false)], args := [d1, d2, d3] }
  | _ => none }
def CallsReadWrongFalsely : Prop := callsReadRow.holds Try.pinned (OpenSpec.ofChange callsReadWrong)

/-- 'roadbooklaw20.CallsParts': WHATEVER THE INPUT: true; the input reads as it did. -/
def callsPartsSpec : ChangeSpec := { name := "callsParts", fn := fun _ => fun
  | [d1, d2, d3] => { results := [.lit (.bool true)], args := [d1, d2, d3] }
  | _ => none }
def callsPartsRow : OpenClaim := { program := "ytkidnomkfdnciaa", sum := "84b66b76bafb281a87812208ca362d50bb47da8fe7fb48973d1aa304f045828a", func := "roadbook/roadbooklaw20.CallsParts", spec := "callsParts", unfollowed := true, recurses := true, plainKeys := false, apart := false }
def CallsPartsSaid : Prop := callsPartsRow.holds Try.pinned (OpenSpec.ofChange callsPartsSpec)

/-- ITS FALSE NEIGHBOUR: 'it returns false'. Refute it at one input. -/
def callsPartsWrong : ChangeSpec := { name := "callsParts", fn := fun _ => fun
  | [d1, d2, d3] => { results := [.lit (.bool false)], args := [d1, d2, d3] }
  | _ => none }
def CallsPartsWrongFalsely : Prop := callsPartsRow.holds Try.pinned (OpenSpec.ofChange callsPartsWrong)

/-- 'roadbooklaw20.CallsAlone': WHATEVER THE INPUT: true; the input reads as it did. -/
def callsAloneSpec : ChangeSpec := { name := "callsAlone", fn := fun _ => fun
  | [d1, d2, d3] => { results := [.lit (.bool true)], args := [d1, d2, d3] }
  | _ => none }
def callsAloneRow : OpenClaim := { program := "ytkidnomkfdnciaa", sum := "84b66b76bafb281a87812208ca362d50bb47da8fe7fb48973d1aa304f045828a", func := "roadbook/roadbooklaw20.CallsAlone", spec := "callsAlone", unfollowed := true, recurses := true, plainKeys := false, apart := false }
def CallsAloneSaid : Prop := callsAloneRow.holds Try.pinned (OpenSpec.ofChange callsAloneSpec)

/-- ITS FALSE NEIGHBOUR: 'it returns false'. Refute it at one input. -/
def callsAloneWrong : ChangeSpec := { name := "callsAlone", fn := fun _ => fun
  | [d1, d2, d3] => { results := [.lit (.bool false)], args := [d1, d2, d3] }
  | _ => none }
def CallsAloneWrongFalsely : Prop := callsAloneRow.holds Try.pinned (OpenSpec.ofChange callsAloneWrong)

/-- 'roadbooklaw20.CallsTell': WHATEVER THE INPUT: true; the input reads as it did. -/
def callsTellSpec : ChangeSpec := { name := "callsTell", fn := fun _ => fun
  | [d1, d2, d3, d4] => { results := [.lit (.bool true)], args := [d1, d2, d3, d4] }
  | _ => none }
def callsTellRow : OpenClaim := { program := "ytkidnomkfdnciaa", sum := "84b66b76bafb281a87812208ca362d50bb47da8fe7fb48973d1aa304f045828a", func := "roadbook/roadbooklaw20.CallsTell", spec := "callsTell", unfollowed := true, recurses := true, plainKeys := false, apart := false }
def CallsTellSaid : Prop := callsTellRow.holds Try.pinned (OpenSpec.ofChange callsTellSpec)

/-- ITS FALSE NEIGHBOUR: 'it returns false'. Refute it at one input. -/
def callsTellWrong : ChangeSpec := { name := "callsTell", fn := fun _ => fun
  | [d1, d2, d3, d4] => { results := [.lit (.bool false)], args := [d1, d2, d3, d4] }
  | _ => none }
def CallsTellWrongFalsely : Prop := callsTellRow.holds Try.pinned (OpenSpec.ofChange callsTellWrong)

/-- 'roadbooklaw20.CallsOrder': WHATEVER THE INPUT: true; the input reads as it did. -/
def callsOrderSpec : ChangeSpec := { name := "callsOrder", fn := fun _ => fun
  | [d1, d2, d3] => { results := [.lit (.bool true)], args := [d1, d2, d3] }
  | _ => none }
def callsOrderRow : OpenClaim := { program := "ytkidnomkfdnciaa", sum := "84b66b76bafb281a87812208ca362d50bb47da8fe7fb48973d1aa304f045828a", func := "roadbook/roadbooklaw20.CallsOrder", spec := "callsOrder", unfollowed := true, recurses := true, plainKeys := false, apart := false }
def CallsOrderSaid : Prop := callsOrderRow.holds Try.pinned (OpenSpec.ofChange callsOrderSpec)

/-- ITS FALSE NEIGHBOUR: 'it returns false'. Refute it at one input. -/
def callsOrderWrong : ChangeSpec := { name := "callsOrder", fn := fun _ => fun
  | [d1, d2, d3] => { results := [.lit (.bool false)], args := [d1, d2, d3] }
  | _ => none }
def CallsOrderWrongFalsely : Prop := callsOrderRow.holds Try.pinned (OpenSpec.ofChange callsOrderWrong)

/- THE SECOND FORM. 'bulk': how many values and letters a reading holds, each counted each time it is reached (what is shared counts as often as it is met; a slice's spare places count too). A statement '..UptoSaid' is the law's where the arguments, and the package variables that the reading takes, are together of bulk at most 1048576: NARROWER than '..Said'. Prove '..Said' where nothing that the law and all that it calls make is longer than what came in: it says more and counts as full. Else prove '..UptoSaid'. A law counts once. -/
mutual
def uptoBulk {H : Type} : DataW H → Nat
  | .lit (.string bytes) => bytes.length + 1
  | .lit _ => 1
  | .nil => 1
  | .ptr d => uptoBulk d + 1
  | .slice elems spare => uptoBulkAll elems + uptoBulkAll spare + 1
  | .agg parts => uptoBulkAll parts + 1
  | .iface _ d => uptoBulk d + 1
  | .map entries => uptoBulkEntries entries + 1
  | .held _ => 1
def uptoBulkAll {H : Type} : List (DataW H) → Nat
  | [] => 0
  | d :: r => uptoBulk d + uptoBulkAll r
def uptoBulkEntries {H : Type} : List (Lit × DataW H) → Nat
  | [] => 0
  | x :: r => uptoBulkEntry x + uptoBulkEntries r
def uptoBulkEntry {H : Type} : Lit × DataW H → Nat
  | (.string bytes, d) => bytes.length + uptoBulk d + 1
  | (_, d) => uptoBulk d + 1
 end
def uptoSmall : (H : Type) → List (DataW H) → Bool := fun _ ds => decide (uptoBulkAll ds ≤ 1048576)
def OpenSpec.upto (s : _root_.Go.ChangeSpec) : _root_.Go.OpenSpec := { _root_.Go.OpenSpec.ofChange s with cond := some uptoSmall }

/-- 'roadbooklaw15.SetsJoin', WHERE WHAT IT READS IS OF BULK AT MOST 1048576: true; the input reads as it did. -/
def setsJoinUptoRow : OpenClaim := { program := "ytkidnomkfdnciaa", sum := "84b66b76bafb281a87812208ca362d50bb47da8fe7fb48973d1aa304f045828a", func := "roadbook/roadbooklaw15.SetsJoin", spec := "setsJoin", plainKeys := false, apart := false, narrowed := true }
def SetsJoinUptoSaid : Prop := setsJoinUptoRow.holds Try.pinned (OpenSpec.upto setsJoinSpec)

/-- 'roadbooklaw15.SetsOrder', WHERE WHAT IT READS IS OF BULK AT MOST 1048576: true; the input reads as it did. -/
def setsOrderUptoRow : OpenClaim := { program := "ytkidnomkfdnciaa", sum := "84b66b76bafb281a87812208ca362d50bb47da8fe7fb48973d1aa304f045828a", func := "roadbook/roadbooklaw15.SetsOrder", spec := "setsOrder", plainKeys := false, apart := false, narrowed := true }
def SetsOrderUptoSaid : Prop := setsOrderUptoRow.holds Try.pinned (OpenSpec.upto setsOrderSpec)

/-- 'roadbooklaw15.SetsMay', WHERE WHAT IT READS IS OF BULK AT MOST 1048576: true; the input reads as it did. -/
def setsMayUptoRow : OpenClaim := { program := "ytkidnomkfdnciaa", sum := "84b66b76bafb281a87812208ca362d50bb47da8fe7fb48973d1aa304f045828a", func := "roadbook/roadbooklaw15.SetsMay", spec := "setsMay", plainKeys := false, apart := false, narrowed := true }
def SetsMayUptoSaid : Prop := setsMayUptoRow.holds Try.pinned (OpenSpec.upto setsMaySpec)

/-- 'roadbooklaw15.SetsTell', WHERE WHAT IT READS IS OF BULK AT MOST 1048576: true; the input reads as it did. -/
def setsTellUptoRow : OpenClaim := { program := "ytkidnomkfdnciaa", sum := "84b66b76bafb281a87812208ca362d50bb47da8fe7fb48973d1aa304f045828a", func := "roadbook/roadbooklaw15.SetsTell", spec := "setsTell", plainKeys := false, apart := false, narrowed := true }
def SetsTellUptoSaid : Prop := setsTellUptoRow.holds Try.pinned (OpenSpec.upto setsTellSpec)

/-- 'roadbooklaw15.SetsLeast', WHERE WHAT IT READS IS OF BULK AT MOST 1048576: true; the input reads as it did. -/
def setsLeastUptoRow : OpenClaim := { program := "ytkidnomkfdnciaa", sum := "84b66b76bafb281a87812208ca362d50bb47da8fe7fb48973d1aa304f045828a", func := "roadbook/roadbooklaw15.SetsLeast", spec := "setsLeast", plainKeys := false, apart := false, narrowed := true }
def SetsLeastUptoSaid : Prop := setsLeastUptoRow.holds Try.pinned (OpenSpec.upto setsLeastSpec)

/-- 'roadbooklaw15.SetsSame', WHERE WHAT IT READS IS OF BULK AT MOST 1048576: true; the input reads as it did. -/
def setsSameUptoRow : OpenClaim := { program := "ytkidnomkfdnciaa", sum := "84b66b76bafb281a87812208ca362d50bb47da8fe7fb48973d1aa304f045828a", func := "roadbook/roadbooklaw15.SetsSame", spec := "setsSame", plainKeys := false, apart := false, narrowed := true }
def SetsSameUptoSaid : Prop := setsSameUptoRow.holds Try.pinned (OpenSpec.upto setsSameSpec)

/-- 'roadbooklaw16.MemoMust', WHERE WHAT IT READS IS OF BULK AT MOST 1048576: true; the input reads as it did. -/
def memoMustUptoRow : OpenClaim := { program := "ytkidnomkfdnciaa", sum := "84b66b76bafb281a87812208ca362d50bb47da8fe7fb48973d1aa304f045828a", func := "roadbook/roadbooklaw16.MemoMust", spec := "memoMust", unfollowed := true, recurses := true, plainKeys := false, apart := false, narrowed := true }
def MemoMustUptoSaid : Prop := memoMustUptoRow.holds Try.pinned (OpenSpec.upto memoMustSpec)

/-- 'roadbooklaw16.MemoOf', WHERE WHAT IT READS IS OF BULK AT MOST 1048576: true; the input reads as it did. -/
def memoOfUptoRow : OpenClaim := { program := "ytkidnomkfdnciaa", sum := "84b66b76bafb281a87812208ca362d50bb47da8fe7fb48973d1aa304f045828a", func := "roadbook/roadbooklaw16.MemoOf", spec := "memoOf", unfollowed := true, recurses := true, plainKeys := false, apart := false, narrowed := true }
def MemoOfUptoSaid : Prop := memoOfUptoRow.holds Try.pinned (OpenSpec.upto memoOfSpec)

/-- 'roadbooklaw16.MemoLook', WHERE WHAT IT READS IS OF BULK AT MOST 1048576: true; the input reads as it did. -/
def memoLookUptoRow : OpenClaim := { program := "ytkidnomkfdnciaa", sum := "84b66b76bafb281a87812208ca362d50bb47da8fe7fb48973d1aa304f045828a", func := "roadbook/roadbooklaw16.MemoLook", spec := "memoLook", unfollowed := true, recurses := true, plainKeys := false, apart := false, narrowed := true }
def MemoLookUptoSaid : Prop := memoLookUptoRow.holds Try.pinned (OpenSpec.upto memoLookSpec)

/-- 'roadbooklaw16.MemoOrder', WHERE WHAT IT READS IS OF BULK AT MOST 1048576: true; the input reads as it did. -/
def memoOrderUptoRow : OpenClaim := { program := "ytkidnomkfdnciaa", sum := "84b66b76bafb281a87812208ca362d50bb47da8fe7fb48973d1aa304f045828a", func := "roadbook/roadbooklaw16.MemoOrder", spec := "memoOrder", unfollowed := true, recurses := true, plainKeys := false, apart := false, narrowed := true }
def MemoOrderUptoSaid : Prop := memoOrderUptoRow.holds Try.pinned (OpenSpec.upto memoOrderSpec)

/-- 'roadbooklaw16.MemoTells', WHERE WHAT IT READS IS OF BULK AT MOST 1048576: true; the input reads as it did. -/
def memoTellsUptoRow : OpenClaim := { program := "ytkidnomkfdnciaa", sum := "84b66b76bafb281a87812208ca362d50bb47da8fe7fb48973d1aa304f045828a", func := "roadbook/roadbooklaw16.MemoTells", spec := "memoTells", unfollowed := true, recurses := true, plainKeys := false, apart := false, narrowed := true }
def MemoTellsUptoSaid : Prop := memoTellsUptoRow.holds Try.pinned (OpenSpec.upto memoTellsSpec)

/-- 'roadbooklaw16.MemoPuts', WHERE WHAT IT READS IS OF BULK AT MOST 1048576: true; the input reads as it did. -/
def memoPutsUptoRow : OpenClaim := { program := "ytkidnomkfdnciaa", sum := "84b66b76bafb281a87812208ca362d50bb47da8fe7fb48973d1aa304f045828a", func := "roadbook/roadbooklaw16.MemoPuts", spec := "memoPuts", unfollowed := true, recurses := true, plainKeys := false, apart := false, narrowed := true }
def MemoPutsUptoSaid : Prop := memoPutsUptoRow.holds Try.pinned (OpenSpec.upto memoPutsSpec)

/-- 'roadbooklaw16.MemoOne', WHERE WHAT IT READS IS OF BULK AT MOST 1048576: true; the input reads as it did. -/
def memoOneUptoRow : OpenClaim := { program := "ytkidnomkfdnciaa", sum := "84b66b76bafb281a87812208ca362d50bb47da8fe7fb48973d1aa304f045828a", func := "roadbook/roadbooklaw16.MemoOne", spec := "memoOne", unfollowed := true, recurses := true, plainKeys := false, apart := false, narrowed := true }
def MemoOneUptoSaid : Prop := memoOneUptoRow.holds Try.pinned (OpenSpec.upto memoOneSpec)

/-- 'roadbooklaw20.CallsReal', WHERE WHAT IT READS IS OF BULK AT MOST 1048576: true; the input reads as it did. -/
def callsRealUptoRow : OpenClaim := { program := "ytkidnomkfdnciaa", sum := "84b66b76bafb281a87812208ca362d50bb47da8fe7fb48973d1aa304f045828a", func := "roadbook/roadbooklaw20.CallsReal", spec := "callsReal", unfollowed := true, recurses := true, plainKeys := false, apart := false, narrowed := true }
def CallsRealUptoSaid : Prop := callsRealUptoRow.holds Try.pinned (OpenSpec.upto callsRealSpec)

/-- 'roadbooklaw20.CallsKeep', WHERE WHAT IT READS IS OF BULK AT MOST 1048576: true; the input reads as it did. -/
def callsKeepUptoRow : OpenClaim := { program := "ytkidnomkfdnciaa", sum := "84b66b76bafb281a87812208ca362d50bb47da8fe7fb48973d1aa304f045828a", func := "roadbook/roadbooklaw20.CallsKeep", spec := "callsKeep", unfollowed := true, recurses := true, plainKeys := false, apart := false, narrowed := true }
def CallsKeepUptoSaid : Prop := callsKeepUptoRow.holds Try.pinned (OpenSpec.upto callsKeepSpec)

/-- 'roadbooklaw20.CallsRead', WHERE WHAT IT READS IS OF BULK AT MOST 1048576: true; the input reads as it did. -/
def callsReadUptoRow : OpenClaim := { program := "ytkidnomkfdnciaa", sum := "84b66b76bafb281a87812208ca362d50bb47da8fe7fb48973d1aa304f045828a", func := "roadbook/roadbooklaw20.CallsRead", spec := "callsRead", unfollowed := true, recurses := true, plainKeys := false, apart := false, narrowed := true }
def CallsReadUptoSaid : Prop := callsReadUptoRow.holds Try.pinned (OpenSpec.upto callsReadSpec)

/-- 'roadbooklaw20.CallsParts', WHERE WHAT IT READS IS OF BULK AT MOST 1048576: true; the input reads as it did. -/
def callsPartsUptoRow : OpenClaim := { program := "ytkidnomkfdnciaa", sum := "84b66b76bafb281a87812208ca362d50bb47da8fe7fb48973d1aa304f045828a", func := "roadbook/roadbooklaw20.CallsParts", spec := "callsParts", unfollowed := true, recurses := true, plainKeys := false, apart := false, narrowed := true }
def CallsPartsUptoSaid : Prop := callsPartsUptoRow.holds Try.pinned (OpenSpec.upto callsPartsSpec)

/-- 'roadbooklaw20.CallsAlone', WHERE WHAT IT READS IS OF BULK AT MOST 1048576: true; the input reads as it did. -/
def callsAloneUptoRow : OpenClaim := { program := "ytkidnomkfdnciaa", sum := "84b66b76bafb281a87812208ca362d50bb47da8fe7fb48973d1aa304f045828a", func := "roadbook/roadbooklaw20.CallsAlone", spec := "callsAlone", unfollowed := true, recurses := true, plainKeys := false, apart := false, narrowed := true }
def CallsAloneUptoSaid : Prop := callsAloneUptoRow.holds Try.pinned (OpenSpec.upto callsAloneSpec)

/-- 'roadbooklaw20.CallsTell', WHERE WHAT IT READS IS OF BULK AT MOST 1048576: true; the input reads as it did. -/
def callsTellUptoRow : OpenClaim := { program := "ytkidnomkfdnciaa", sum := "84b66b76bafb281a87812208ca362d50bb47da8fe7fb48973d1aa304f045828a", func := "roadbook/roadbooklaw20.CallsTell", spec := "callsTell", unfollowed := true, recurses := true, plainKeys := false, apart := false, narrowed := true }
def CallsTellUptoSaid : Prop := callsTellUptoRow.holds Try.pinned (OpenSpec.upto callsTellSpec)

/-- 'roadbooklaw20.CallsOrder', WHERE WHAT IT READS IS OF BULK AT MOST 1048576: true; the input reads as it did. -/
def callsOrderUptoRow : OpenClaim := { program := "ytkidnomkfdnciaa", sum := "84b66b76bafb281a87812208ca362d50bb47da8fe7fb48973d1aa304f045828a", func := "roadbook/roadbooklaw20.CallsOrder", spec := "callsOrder", unfollowed := true, recurses := true, plainKeys := false, apart := false, narrowed := true }
def CallsOrderUptoSaid : Prop := callsOrderUptoRow.holds Try.pinned (OpenSpec.upto callsOrderSpec)

end Rows
end Go.Proofs.Ytkidnomkfdnciaa
