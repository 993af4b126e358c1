/-
  No cell of these rows narrows 'for every input' (looked for: loops, veiled, ifaces, maps, wideKeys, modest, calm, conditions, laid).
  DERIVED. THE GIVEN ROWS OF THIS SEAT. 8 by the template 'for every input the law returns true; each argument reads behind the call as it read before'; 0 by the template 'total and deterministic' (their statements: YthaebckdhcnkfaaTotals.lean).
  GIVEN WITH THE SEED: the statements are not yours to turn. If you find one false, say at which input.
  Laid BY PROGRAM, IN A SANDBOX (cutbox-rows.mjs): the forced cells as the released guide's own fill.sh prints them over the translation ebdb9cc41fd7580f… (all of the seat's roots in one cut). By AI agents, Wed Nov 11 2026. No macro, syntax, notation, axiom, sorry.
-/
import Derived.Test.YthaebckdhcnkfaaChecked
import GoSem.Claim
import GoSem.ClaimJoined
import GoSem.ClaimMapViews
import Derived.JoinedTies
import Derived.KernelRfl
namespace Go.Proofs.Ythaebckdhcnkfaa
/- THE CELL 'sum', in the pinned program and in every row, IS THE sha256 OF THE DUMP (.gsa) THAT YthaebckdhcnkfaaProg.lean LOADS. Nothing in Lean hashes anything: it is a label: what it is worth is what the hold of that sum in a sandbox is worth. -/
noncomputable def Try.pinned : Pinned := { name := "ythaebckdhcnkfaa", sum := "ebdb9cc41fd7580ff512a1c31d69e5e98232ded550d0ae984bdbab359e8bdc42", checked := Try.checked }
namespace Rows
def none {H : Type} : Left H := { results := [], args := [] }

/-- 'laws.FnExactValidGraph': WHATEVER THE INPUT: true; the input reads as it did. -/
def fnExactValidGraphSpec : ChangeSpec := { name := "fnExactValidGraph", fn := fun _ => fun
  | [d] => { results := [.lit (.bool true)], args := [d] }
  | _ => none }
def fnExactValidGraphRow : OpenClaim := { program := "ythaebckdhcnkfaa", sum := "ebdb9cc41fd7580ff512a1c31d69e5e98232ded550d0ae984bdbab359e8bdc42", func := "loop.example/s0019/laws.FnExactValidGraph", spec := "fnExactValidGraph", plainKeys := false, apart := false }
def FnExactValidGraphSaid : Prop := fnExactValidGraphRow.holds Try.pinned (OpenSpec.ofChange fnExactValidGraphSpec)

/-- ITS FALSE NEIGHBOUR: 'it returns false'. Refute it at one input. -/
def fnExactValidGraphWrong : ChangeSpec := { name := "fnExactValidGraph", fn := fun _ => fun
  | [d] => { results := [.lit (.bool false)], args := [d] }
  | _ => none }
def FnExactValidGraphWrongFalsely : Prop := fnExactValidGraphRow.holds Try.pinned (OpenSpec.ofChange fnExactValidGraphWrong)

/-- 'laws.FnExactValidAuto': WHATEVER THE INPUT: true; the input reads as it did. -/
def fnExactValidAutoSpec : ChangeSpec := { name := "fnExactValidAuto", fn := fun _ => fun
  | [d] => { results := [.lit (.bool true)], args := [d] }
  | _ => none }
def fnExactValidAutoRow : OpenClaim := { program := "ythaebckdhcnkfaa", sum := "ebdb9cc41fd7580ff512a1c31d69e5e98232ded550d0ae984bdbab359e8bdc42", func := "loop.example/s0019/laws.FnExactValidAuto", spec := "fnExactValidAuto", plainKeys := false, apart := false }
def FnExactValidAutoSaid : Prop := fnExactValidAutoRow.holds Try.pinned (OpenSpec.ofChange fnExactValidAutoSpec)

/-- ITS FALSE NEIGHBOUR: 'it returns false'. Refute it at one input. -/
def fnExactValidAutoWrong : ChangeSpec := { name := "fnExactValidAuto", fn := fun _ => fun
  | [d] => { results := [.lit (.bool false)], args := [d] }
  | _ => none }
def FnExactValidAutoWrongFalsely : Prop := fnExactValidAutoRow.holds Try.pinned (OpenSpec.ofChange fnExactValidAutoWrong)

/-- 'laws.FnExactPathCost': WHATEVER THE INPUT: true; the input reads as it did. -/
def fnExactPathCostSpec : ChangeSpec := { name := "fnExactPathCost", fn := fun _ => fun
  | [d1, d2] => { results := [.lit (.bool true)], args := [d1, d2] }
  | _ => none }
def fnExactPathCostRow : OpenClaim := { program := "ythaebckdhcnkfaa", sum := "ebdb9cc41fd7580ff512a1c31d69e5e98232ded550d0ae984bdbab359e8bdc42", func := "loop.example/s0019/laws.FnExactPathCost", spec := "fnExactPathCost", plainKeys := false, apart := false }
def FnExactPathCostSaid : Prop := fnExactPathCostRow.holds Try.pinned (OpenSpec.ofChange fnExactPathCostSpec)

/-- ITS FALSE NEIGHBOUR: 'it returns false'. Refute it at one input. -/
def fnExactPathCostWrong : ChangeSpec := { name := "fnExactPathCost", fn := fun _ => fun
  | [d1, d2] => { results := [.lit (.bool false)], args := [d1, d2] }
  | _ => none }
def FnExactPathCostWrongFalsely : Prop := fnExactPathCostRow.holds Try.pinned (OpenSpec.ofChange fnExactPathCostWrong)

/-- 'laws.FnExactLiftWalk': WHATEVER THE INPUT: true; the input reads as it did. -/
def fnExactLiftWalkSpec : ChangeSpec := { name := "fnExactLiftWalk", fn := fun _ => fun
  | [d1, d2] => { results := [.lit (.bool true)], args := [d1, d2] }
  | _ => none }
def fnExactLiftWalkRow : OpenClaim := { program := "ythaebckdhcnkfaa", sum := "ebdb9cc41fd7580ff512a1c31d69e5e98232ded550d0ae984bdbab359e8bdc42", func := "loop.example/s0019/laws.FnExactLiftWalk", spec := "fnExactLiftWalk", plainKeys := false, apart := false }
def FnExactLiftWalkSaid : Prop := fnExactLiftWalkRow.holds Try.pinned (OpenSpec.ofChange fnExactLiftWalkSpec)

/-- ITS FALSE NEIGHBOUR: 'it returns false'. Refute it at one input. -/
def fnExactLiftWalkWrong : ChangeSpec := { name := "fnExactLiftWalk", fn := fun _ => fun
  | [d1, d2] => { results := [.lit (.bool false)], args := [d1, d2] }
  | _ => none }
def FnExactLiftWalkWrongFalsely : Prop := fnExactLiftWalkRow.holds Try.pinned (OpenSpec.ofChange fnExactLiftWalkWrong)

/-- 'laws.FnExactPathEdges': WHATEVER THE INPUT: true; the input reads as it did. -/
def fnExactPathEdgesSpec : ChangeSpec := { name := "fnExactPathEdges", fn := fun _ => fun
  | [d1, d2] => { results := [.lit (.bool true)], args := [d1, d2] }
  | _ => none }
def fnExactPathEdgesRow : OpenClaim := { program := "ythaebckdhcnkfaa", sum := "ebdb9cc41fd7580ff512a1c31d69e5e98232ded550d0ae984bdbab359e8bdc42", func := "loop.example/s0019/laws.FnExactPathEdges", spec := "fnExactPathEdges", plainKeys := false, apart := false }
def FnExactPathEdgesSaid : Prop := fnExactPathEdgesRow.holds Try.pinned (OpenSpec.ofChange fnExactPathEdgesSpec)

/-- ITS FALSE NEIGHBOUR: 'it returns false'. Refute it at one input. -/
def fnExactPathEdgesWrong : ChangeSpec := { name := "fnExactPathEdges", fn := fun _ => fun
  | [d1, d2] => { results := [.lit (.bool false)], args := [d1, d2] }
  | _ => none }
def FnExactPathEdgesWrongFalsely : Prop := fnExactPathEdgesRow.holds Try.pinned (OpenSpec.ofChange fnExactPathEdgesWrong)

/-- 'laws.FnExactStepAuto': WHATEVER THE INPUT: true; the input reads as it did. -/
def fnExactStepAutoSpec : ChangeSpec := { name := "fnExactStepAuto", fn := fun _ => fun
  | [d1, d2, d3] => { results := [.lit (.bool true)], args := [d1, d2, d3] }
  | _ => none }
def fnExactStepAutoRow : OpenClaim := { program := "ythaebckdhcnkfaa", sum := "ebdb9cc41fd7580ff512a1c31d69e5e98232ded550d0ae984bdbab359e8bdc42", func := "loop.example/s0019/laws.FnExactStepAuto", spec := "fnExactStepAuto", plainKeys := false, apart := false }
def FnExactStepAutoSaid : Prop := fnExactStepAutoRow.holds Try.pinned (OpenSpec.ofChange fnExactStepAutoSpec)

/-- ITS FALSE NEIGHBOUR: 'it returns false'. Refute it at one input. -/
def fnExactStepAutoWrong : ChangeSpec := { name := "fnExactStepAuto", fn := fun _ => fun
  | [d1, d2, d3] => { results := [.lit (.bool false)], args := [d1, d2, d3] }
  | _ => none }
def FnExactStepAutoWrongFalsely : Prop := fnExactStepAutoRow.holds Try.pinned (OpenSpec.ofChange fnExactStepAutoWrong)

/-- 'laws.FnExactRunAuto': WHATEVER THE INPUT: true; the input reads as it did. -/
def fnExactRunAutoSpec : ChangeSpec := { name := "fnExactRunAuto", fn := fun _ => fun
  | [d1, d2] => { results := [.lit (.bool true)], args := [d1, d2] }
  | _ => none }
def fnExactRunAutoRow : OpenClaim := { program := "ythaebckdhcnkfaa", sum := "ebdb9cc41fd7580ff512a1c31d69e5e98232ded550d0ae984bdbab359e8bdc42", func := "loop.example/s0019/laws.FnExactRunAuto", spec := "fnExactRunAuto", plainKeys := false, apart := false }
def FnExactRunAutoSaid : Prop := fnExactRunAutoRow.holds Try.pinned (OpenSpec.ofChange fnExactRunAutoSpec)

/-- ITS FALSE NEIGHBOUR: 'it returns false'. Refute it at one input. -/
def fnExactRunAutoWrong : ChangeSpec := { name := "fnExactRunAuto", fn := fun _ => fun
  | [d1, d2] => { results := [.lit (.bool false)], args := [d1, d2] }
  | _ => none }
def FnExactRunAutoWrongFalsely : Prop := fnExactRunAutoRow.holds Try.pinned (OpenSpec.ofChange fnExactRunAutoWrong)

/-- 'laws.FnExactValidNet': WHATEVER THE INPUT: true; the input reads as it did. -/
def fnExactValidNetSpec : ChangeSpec := { name := "fnExactValidNet", fn := fun _ => fun
  | [d] => { results := [.lit (.bool true)], args := [d] }
  | _ => none }
def fnExactValidNetRow : OpenClaim := { program := "ythaebckdhcnkfaa", sum := "ebdb9cc41fd7580ff512a1c31d69e5e98232ded550d0ae984bdbab359e8bdc42", func := "loop.example/s0019/laws.FnExactValidNet", spec := "fnExactValidNet", plainKeys := false, apart := false }
def FnExactValidNetSaid : Prop := fnExactValidNetRow.holds Try.pinned (OpenSpec.ofChange fnExactValidNetSpec)

/-- ITS FALSE NEIGHBOUR: 'it returns false'. Refute it at one input. -/
def fnExactValidNetWrong : ChangeSpec := { name := "fnExactValidNet", fn := fun _ => fun
  | [d] => { results := [.lit (.bool false)], args := [d] }
  | _ => none }
def FnExactValidNetWrongFalsely : Prop := fnExactValidNetRow.holds Try.pinned (OpenSpec.ofChange fnExactValidNetWrong)

/- THE SECOND FORM. 'bulk': how many values and letters a reading holds, each counted each time it is reached (what is shared counts as often as it is met; a slice's spare places count too). A statement '..UptoSaid' is the law's where the arguments, and the package variables that the reading takes, are together of bulk at most 1048576: NARROWER than '..Said'. Prove '..Said' where nothing that the law and all that it calls make is longer than what came in: it says more and counts as full. Else prove '..UptoSaid'. A law counts once. -/
mutual
def uptoBulk {H : Type} : DataW H → Nat
  | .lit (.string bytes) => bytes.length + 1
  | .lit _ => 1
  | .nil => 1
  | .ptr d => uptoBulk d + 1
  | .slice elems spare => uptoBulkAll elems + uptoBulkAll spare + 1
  | .agg parts => uptoBulkAll parts + 1
  | .iface _ d => uptoBulk d + 1
  | .map entries => uptoBulkEntries entries + 1
  | .held _ => 1
def uptoBulkAll {H : Type} : List (DataW H) → Nat
  | [] => 0
  | d :: r => uptoBulk d + uptoBulkAll r
def uptoBulkEntries {H : Type} : List (Lit × DataW H) → Nat
  | [] => 0
  | x :: r => uptoBulkEntry x + uptoBulkEntries r
def uptoBulkEntry {H : Type} : Lit × DataW H → Nat
  | (.string bytes, d) => bytes.length + uptoBulk d + 1
  | (_, d) => uptoBulk d + 1
 end
def uptoSmall : (H : Type) → List (DataW H) → Bool := fun _ ds => decide (uptoBulkAll ds ≤ 1048576)
def OpenSpec.upto (s : _root_.Go.ChangeSpec) : _root_.Go.OpenSpec := { _root_.Go.OpenSpec.ofChange s with cond := some uptoSmall }

/-- 'laws.FnExactValidGraph', WHERE WHAT IT READS IS OF BULK AT MOST 1048576: true; the input reads as it did. -/
def fnExactValidGraphUptoRow : OpenClaim := { program := "ythaebckdhcnkfaa", sum := "ebdb9cc41fd7580ff512a1c31d69e5e98232ded550d0ae984bdbab359e8bdc42", func := "loop.example/s0019/laws.FnExactValidGraph", spec := "fnExactValidGraph", plainKeys := false, apart := false, narrowed := true }
def FnExactValidGraphUptoSaid : Prop := fnExactValidGraphUptoRow.holds Try.pinned (OpenSpec.upto fnExactValidGraphSpec)

/-- 'laws.FnExactValidAuto', WHERE WHAT IT READS IS OF BULK AT MOST 1048576: true; the input reads as it did. -/
def fnExactValidAutoUptoRow : OpenClaim := { program := "ythaebckdhcnkfaa", sum := "ebdb9cc41fd7580ff512a1c31d69e5e98232ded550d0ae984bdbab359e8bdc42", func := "loop.example/s0019/laws.FnExactValidAuto", spec := "fnExactValidAuto", plainKeys := false, apart := false, narrowed := true }
def FnExactValidAutoUptoSaid : Prop := fnExactValidAutoUptoRow.holds Try.pinned (OpenSpec.upto fnExactValidAutoSpec)

/-- 'laws.FnExactPathCost', WHERE WHAT IT READS IS OF BULK AT MOST 1048576: true; the input reads as it did. -/
def fnExactPathCostUptoRow : OpenClaim := { program := "ythaebckdhcnkfaa", sum := "ebdb9cc41fd7580ff512a1c31d69e5e98232ded550d0ae984bdbab359e8bdc42", func := "loop.example/s0019/laws.FnExactPathCost", spec := "fnExactPathCost", plainKeys := false, apart := false, narrowed := true }
def FnExactPathCostUptoSaid : Prop := fnExactPathCostUptoRow.holds Try.pinned (OpenSpec.upto fnExactPathCostSpec)

/-- 'laws.FnExactLiftWalk', WHERE WHAT IT READS IS OF BULK AT MOST 1048576: true; the input reads as it did. -/
def fnExactLiftWalkUptoRow : OpenClaim := { program := "ythaebckdhcnkfaa", sum := "ebdb9cc41fd7580ff512a1c31d69e5e98232ded550d0ae984bdbab359e8bdc42", func := "loop.example/s0019/laws.FnExactLiftWalk", spec := "fnExactLiftWalk", plainKeys := false, apart := false, narrowed := true }
def FnExactLiftWalkUptoSaid : Prop := fnExactLiftWalkUptoRow.holds Try.pinned (OpenSpec.upto fnExactLiftWalkSpec)

/-- 'laws.FnExactPathEdges', WHERE WHAT IT READS IS OF BULK AT MOST 1048576: true; the input reads as it did. -/
def fnExactPathEdgesUptoRow : OpenClaim := { program := "ythaebckdhcnkfaa", sum := "ebdb9cc41fd7580ff512a1c31d69e5e98232ded550d0ae984bdbab359e8bdc42", func := "loop.example/s0019/laws.FnExactPathEdges", spec := "fnExactPathEdges", plainKeys := false, apart := false, narrowed := true }
def FnExactPathEdgesUptoSaid : Prop := fnExactPathEdgesUptoRow.holds Try.pinned (OpenSpec.upto fnExactPathEdgesSpec)

/-- 'laws.FnExactStepAuto', WHERE WHAT IT READS IS OF BULK AT MOST 1048576: true; the input reads as it did. -/
def fnExactStepAutoUptoRow : OpenClaim := { program := "ythaebckdhcnkfaa", sum := "ebdb9cc41fd7580ff512a1c31d69e5e98232ded550d0ae984bdbab359e8bdc42", func := "loop.example/s0019/laws.FnExactStepAuto", spec := "fnExactStepAuto", plainKeys := false, apart := false, narrowed := true }
def FnExactStepAutoUptoSaid : Prop := fnExactStepAutoUptoRow.holds Try.pinned (OpenSpec.upto fnExactStepAutoSpec)

/-- 'laws.FnExactRunAuto', WHERE WHAT IT READS IS OF BULK AT MOST 1048576: true; the input reads as it did. -/
def fnExactRunAutoUptoRow : OpenClaim := { program := "ythaebckdhcnkfaa", sum := "ebdb9cc41fd7580ff512a1c31d69e5e98232ded550d0ae984bdbab359e8bdc42", func := "loop.example/s0019/laws.FnExactRunAuto", spec := "fnExactRunAuto", plainKeys := false, apart := false, narrowed := true }
def FnExactRunAutoUptoSaid : Prop := fnExactRunAutoUptoRow.holds Try.pinned (OpenSpec.upto fnExactRunAutoSpec)

/-- 'laws.FnExactValidNet', WHERE WHAT IT READS IS OF BULK AT MOST 1048576: true; the input reads as it did. -/
def fnExactValidNetUptoRow : OpenClaim := { program := "ythaebckdhcnkfaa", sum := "ebdb9cc41fd7580ff512a1c31d69e5e98232ded550d0ae984bdbab359e8bdc42", func := "loop.example/s0019/laws.FnExactValidNet", spec := "fnExactValidNet", plainKeys := false, apart := false, narrowed := true }
def FnExactValidNetUptoSaid : Prop := fnExactValidNetUptoRow.holds Try.pinned (OpenSpec.upto fnExactValidNetSpec)

end Rows
end Go.Proofs.Ythaebckdhcnkfaa
