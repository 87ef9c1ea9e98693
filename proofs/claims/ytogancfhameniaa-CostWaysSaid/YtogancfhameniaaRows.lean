/-
  No cell of these rows narrows 'for every input' (looked for: loops, veiled, ifaces, maps, wideKeys, modest, calm, conditions, laid).
  DERIVED. THE GIVEN ROWS OF THIS SEAT. 5 by the template 'for every input the law returns true; each argument reads behind the call as it read before'; 0 by the template 'total and deterministic' (their statements: YtogancfhameniaaTotals.lean).
  GIVEN WITH THE SEED: the statements are not yours to turn. If you find one false, say at which input.
  Laid BY PROGRAM, IN A SANDBOX (cutbox-rows.mjs): the forced cells as the released guide's own fill.sh prints them over the translation 88161430481e91ca… (all of the seat's roots in one cut). By AI agents, Wed Nov 11 2026. No macro, syntax, notation, axiom, sorry.
-/
import Derived.Test.YtogancfhameniaaChecked
import GoSem.Claim
import GoSem.ClaimJoined
import GoSem.ClaimMapViews
import Derived.JoinedTies
import Derived.KernelRfl
namespace Go.Proofs.Ytogancfhameniaa
/- THE CELL 'sum', in the pinned program and in every row, IS THE sha256 OF THE DUMP (.gsa) THAT YtogancfhameniaaProg.lean LOADS. Nothing in Lean hashes anything: it is a label: what it is worth is what the hold of that sum in a sandbox is worth. -/
noncomputable def Try.pinned : Pinned := { name := "ytogancfhameniaa", sum := "88161430481e91cac9fabb629e21def2c41bdac17e3f066c71bb2011fb3145bb", checked := Try.checked }
namespace Rows
def none {H : Type} : Left H := { results := [], args := [] }

/-- 'roadbooklaw10.CostSum': WHATEVER THE INPUT: true; the input reads as it did. -/
def costSumSpec : ChangeSpec := { name := "costSum", fn := fun _ => fun
  | [d1, d2] => { results := [.lit (.bool true)], args := [d1, d2] }
  | _ => none }
def costSumRow : OpenClaim := { program := "ytogancfhameniaa", sum := "88161430481e91cac9fabb629e21def2c41bdac17e3f066c71bb2011fb3145bb", func := "roadbook/roadbooklaw10.CostSum", spec := "costSum", apart := false }
def CostSumSaid : Prop := costSumRow.holds Try.pinned (OpenSpec.ofChange costSumSpec)

/-- ITS FALSE NEIGHBOUR: 'it returns false'. Refute it at one input. -/
def costSumWrong : ChangeSpec := { name := "costSum", fn := fun _ => fun
  | [d1, d2] => { results := [.lit (.bool false)], args := [d1, d2] }
  | _ => none }
def CostSumWrongFalsely : Prop := costSumRow.holds Try.pinned (OpenSpec.ofChange costSumWrong)

/-- 'roadbooklaw10.CostSort': WHATEVER THE INPUT: true; the input reads as it did. -/
def costSortSpec : ChangeSpec := { name := "costSort", fn := fun _ => fun
  | [d1, d2] => { results := [.lit (.bool true)], args := [d1, d2] }
  | _ => none }
def costSortRow : OpenClaim := { program := "ytogancfhameniaa", sum := "88161430481e91cac9fabb629e21def2c41bdac17e3f066c71bb2011fb3145bb", func := "roadbook/roadbooklaw10.CostSort", spec := "costSort", apart := false }
def CostSortSaid : Prop := costSortRow.holds Try.pinned (OpenSpec.ofChange costSortSpec)

/-- ITS FALSE NEIGHBOUR: 'it returns false'. Refute it at one input. -/
def costSortWrong : ChangeSpec := { name := "costSort", fn := fun _ => fun
  | [d1, d2] => { results := [.lit (.bool false)], args := [d1, d2] }
  | _ => none }
def CostSortWrongFalsely : Prop := costSortRow.holds Try.pinned (OpenSpec.ofChange costSortWrong)

/-- 'roadbooklaw10.CostTells': WHATEVER THE INPUT: true; the input reads as it did. -/
def costTellsSpec : ChangeSpec := { name := "costTells", fn := fun _ => fun
  | [d1, d2, d3, d4] => { results := [.lit (.bool true)], args := [d1, d2, d3, d4] }
  | _ => none }
def costTellsRow : OpenClaim := { program := "ytogancfhameniaa", sum := "88161430481e91cac9fabb629e21def2c41bdac17e3f066c71bb2011fb3145bb", func := "roadbook/roadbooklaw10.CostTells", spec := "costTells", apart := false }
def CostTellsSaid : Prop := costTellsRow.holds Try.pinned (OpenSpec.ofChange costTellsSpec)

/-- ITS FALSE NEIGHBOUR: 'it returns false'. Refute it at one input. -/
def costTellsWrong : ChangeSpec := { name := "costTells", fn := fun _ => fun
  | [d1, d2, d3, d4] => { results := [.lit (.bool false)], args := [d1, d2, d3, d4] }
  | _ => none }
def CostTellsWrongFalsely : Prop := costTellsRow.holds Try.pinned (OpenSpec.ofChange costTellsWrong)

/-- 'roadbooklaw10.CostMore': WHATEVER THE INPUT: true; the input reads as it did. -/
def costMoreSpec : ChangeSpec := { name := "costMore", fn := fun _ => fun
  | [d1, d2, d3, d4, d5] => { results := [.lit (.bool true)], args := [d1, d2, d3, d4, d5] }
  | _ => none }
def costMoreRow : OpenClaim := { program := "ytogancfhameniaa", sum := "88161430481e91cac9fabb629e21def2c41bdac17e3f066c71bb2011fb3145bb", func := "roadbook/roadbooklaw10.CostMore", spec := "costMore", apart := false }
def CostMoreSaid : Prop := costMoreRow.holds Try.pinned (OpenSpec.ofChange costMoreSpec)

/-- ITS FALSE NEIGHBOUR: 'it returns false'. Refute it at one input. -/
def costMoreWrong : ChangeSpec := { name := "costMore", fn := fun _ => fun
  | [d1, d2, d3, d4, d5] => { results := [.lit (.bool false)], args := [d1, d2, d3, d4, d5] }
  | _ => none }
def CostMoreWrongFalsely : Prop := costMoreRow.holds Try.pinned (OpenSpec.ofChange costMoreWrong)

/-- 'roadbooklaw10.CostWays': WHATEVER THE INPUT: true; the input reads as it did. -/
def costWaysSpec : ChangeSpec := { name := "costWays", fn := fun _ => fun
  | [d1, d2] => { results := [.lit (.bool true)], args := [d1, d2] }
  | _ => none }
def costWaysRow : OpenClaim := { program := "ytogancfhameniaa", sum := "88161430481e91cac9fabb629e21def2c41bdac17e3f066c71bb2011fb3145bb", func := "roadbook/roadbooklaw10.CostWays", spec := "costWays", apart := false }
def CostWaysSaid : Prop := costWaysRow.holds Try.pinned (OpenSpec.ofChange costWaysSpec)

/-- ITS FALSE NEIGHBOUR: 'it returns false'. Refute it at one input. -/
def costWaysWrong : ChangeSpec := { name := "costWays", fn := fun _ => fun
  | [d1, d2] => { results := [.lit (.bool false)], args := [d1, d2] }
  | _ => none }
def CostWaysWrongFalsely : Prop := costWaysRow.holds Try.pinned (OpenSpec.ofChange costWaysWrong)

/- THE SECOND FORM. 'bulk': how many values and letters a reading holds, each counted each time it is reached (what is shared counts as often as it is met; a slice's spare places count too). A statement '..UptoSaid' is the law's where the arguments, and the package variables that the reading takes, are together of bulk at most 1048576: NARROWER than '..Said'. Prove '..Said' where nothing that the law and all that it calls make is longer than what came in: it says more and counts as full. Else prove '..UptoSaid'. A law counts once. -/
mutual
def uptoBulk {H : Type} : DataW H → Nat
  | .lit (.string bytes) => bytes.length + 1
  | .lit _ => 1
  | .nil => 1
  | .ptr d => uptoBulk d + 1
  | .slice elems spare => uptoBulkAll elems + uptoBulkAll spare + 1
  | .agg parts => uptoBulkAll parts + 1
  | .iface _ d => uptoBulk d + 1
  | .map entries => uptoBulkEntries entries + 1
  | .held _ => 1
def uptoBulkAll {H : Type} : List (DataW H) → Nat
  | [] => 0
  | d :: r => uptoBulk d + uptoBulkAll r
def uptoBulkEntries {H : Type} : List (Lit × DataW H) → Nat
  | [] => 0
  | x :: r => uptoBulkEntry x + uptoBulkEntries r
def uptoBulkEntry {H : Type} : Lit × DataW H → Nat
  | (.string bytes, d) => bytes.length + uptoBulk d + 1
  | (_, d) => uptoBulk d + 1
 end
def uptoSmall : (H : Type) → List (DataW H) → Bool := fun _ ds => decide (uptoBulkAll ds ≤ 1048576)
def OpenSpec.upto (s : _root_.Go.ChangeSpec) : _root_.Go.OpenSpec := { _root_.Go.OpenSpec.ofChange s with cond := some uptoSmall }

/-- 'roadbooklaw10.CostSum', WHERE WHAT IT READS IS OF BULK AT MOST 1048576: true; the input reads as it did. -/
def costSumUptoRow : OpenClaim := { program := "ytogancfhameniaa", sum := "88161430481e91cac9fabb629e21def2c41bdac17e3f066c71bb2011fb3145bb", func := "roadbook/roadbooklaw10.CostSum", spec := "costSum", apart := false, narrowed := true }
def CostSumUptoSaid : Prop := costSumUptoRow.holds Try.pinned (OpenSpec.upto costSumSpec)

/-- 'roadbooklaw10.CostSort', WHERE WHAT IT READS IS OF BULK AT MOST 1048576: true; the input reads as it did. -/
def costSortUptoRow : OpenClaim := { program := "ytogancfhameniaa", sum := "88161430481e91cac9fabb629e21def2c41bdac17e3f066c71bb2011fb3145bb", func := "roadbook/roadbooklaw10.CostSort", spec := "costSort", apart := false, narrowed := true }
def CostSortUptoSaid : Prop := costSortUptoRow.holds Try.pinned (OpenSpec.upto costSortSpec)

/-- 'roadbooklaw10.CostTells', WHERE WHAT IT READS IS OF BULK AT MOST 1048576: true; the input reads as it did. -/
def costTellsUptoRow : OpenClaim := { program := "ytogancfhameniaa", sum := "88161430481e91cac9fabb629e21def2c41bdac17e3f066c71bb2011fb3145bb", func := "roadbook/roadbooklaw10.CostTells", spec := "costTells", apart := false, narrowed := true }
def CostTellsUptoSaid : Prop := costTellsUptoRow.holds Try.pinned (OpenSpec.upto costTellsSpec)

/-- 'roadbooklaw10.CostMore', WHERE WHAT IT READS IS OF BULK AT MOST 1048576: true; the input reads as it did. -/
def costMoreUptoRow : OpenClaim := { program := "ytogancfhameniaa", sum := "88161430481e91cac9fabb629e21def2c41bdac17e3f066c71bb2011fb3145bb", func := "roadbook/roadbooklaw10.CostMore", spec := "costMore", apart := false, narrowed := true }
def CostMoreUptoSaid : Prop := costMoreUptoRow.holds Try.pinned (OpenSpec.upto costMoreSpec)

/-- 'roadbooklaw10.CostWays', WHERE WHAT IT READS IS OF BULK AT MOST 1048576: true; the input reads as it did. -/
def costWaysUptoRow : OpenClaim := { program := "ytogancfhameniaa", sum := "88161430481e91cac9fabb629e21def2c41bdac17e3f066c71bb2011fb3145bb", func := "roadbook/roadbooklaw10.CostWays", spec := "costWays", apart := false, narrowed := true }
def CostWaysUptoSaid : Prop := costWaysUptoRow.holds Try.pinned (OpenSpec.upto costWaysSpec)

end Rows
end Go.Proofs.Ytogancfhameniaa
