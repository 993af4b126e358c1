/-
  No cell of these rows narrows 'for every input' (looked for: loops, veiled, ifaces, maps, wideKeys, modest, calm, conditions, laid).
  DERIVED. THE GIVEN ROWS OF THIS SEAT. 5 by the template 'for every input the law returns true; each argument reads behind the call as it read before'; 0 by the template 'total and deterministic' (their statements: YtbammppnijbnhaaTotals.lean).
  GIVEN WITH THE SEED: the statements are not yours to turn. If you find one false, say at which input.
  Laid BY PROGRAM, IN A SANDBOX (cutbox-rows.mjs): the forced cells as the released guide's own fill.sh prints them over the translation 4d27d604c0f20347… (all of the seat's roots in one cut). By AI agents, Wed Nov 11 2026. No macro, syntax, notation, axiom, sorry.
-/
import Derived.Test.YtbammppnijbnhaaChecked
import GoSem.Claim
import GoSem.ClaimJoined
import GoSem.ClaimMapViews
import Derived.JoinedTies
import Derived.KernelRfl
namespace Go.Proofs.Ytbammppnijbnhaa
/- THE CELL 'sum', in the pinned program and in every row, IS THE sha256 OF THE DUMP (.gsa) THAT YtbammppnijbnhaaProg.lean LOADS. Nothing in Lean hashes anything: it is a label: what it is worth is what the hold of that sum in a sandbox is worth. -/
noncomputable def Try.pinned : Pinned := { name := "ytbammppnijbnhaa", sum := "4d27d604c0f20347a58f2306d1c2b5e03a7cb19e614e0a7160fcc311919f7d50", checked := Try.checked }
namespace Rows
def none {H : Type} : Left H := { results := [], args := [] }

/-- 'laws.FnExactConstants': WHATEVER THE INPUT: true; the input reads as it did. -/
def fnExactConstantsSpec : ChangeSpec := { name := "fnExactConstants", fn := fun _ => fun
  | [] => { results := [.lit (.bool true)], args := [] }
  | _ => none }
def fnExactConstantsRow : OpenClaim := { program := "ytbammppnijbnhaa", sum := "4d27d604c0f20347a58f2306d1c2b5e03a7cb19e614e0a7160fcc311919f7d50", func := "loop.example/s0019/laws.FnExactConstants", spec := "fnExactConstants", apart := false }
def FnExactConstantsSaid : Prop := fnExactConstantsRow.holds Try.pinned (OpenSpec.ofChange fnExactConstantsSpec)

/-- ITS FALSE NEIGHBOUR: 'it returns false'. Refute it at one input. -/
def fnExactConstantsWrong : ChangeSpec := { name := "fnExactConstants", fn := fun _ => fun
  | [] => { results := [.lit (.bool false)], args := [] }
  | _ => none }
def FnExactConstantsWrongFalsely : Prop := fnExactConstantsRow.holds Try.pinned (OpenSpec.ofChange fnExactConstantsWrong)

/-- 'laws.FnExactValidGraph': WHATEVER THE INPUT: true; the input reads as it did. -/
def fnExactValidGraphSpec : ChangeSpec := { name := "fnExactValidGraph", fn := fun _ => fun
  | [d] => { results := [.lit (.bool true)], args := [d] }
  | _ => none }
def fnExactValidGraphRow : OpenClaim := { program := "ytbammppnijbnhaa", sum := "4d27d604c0f20347a58f2306d1c2b5e03a7cb19e614e0a7160fcc311919f7d50", func := "loop.example/s0019/laws.FnExactValidGraph", spec := "fnExactValidGraph", apart := false }
def FnExactValidGraphSaid : Prop := fnExactValidGraphRow.holds Try.pinned (OpenSpec.ofChange fnExactValidGraphSpec)

/-- ITS FALSE NEIGHBOUR: 'it returns false'. Refute it at one input. -/
def fnExactValidGraphWrong : ChangeSpec := { name := "fnExactValidGraph", fn := fun _ => fun
  | [d] => { results := [.lit (.bool false)], args := [d] }
  | _ => none }
def FnExactValidGraphWrongFalsely : Prop := fnExactValidGraphRow.holds Try.pinned (OpenSpec.ofChange fnExactValidGraphWrong)

/-- 'laws.FnExactPathCost': WHATEVER THE INPUT: true; the input reads as it did. -/
def fnExactPathCostSpec : ChangeSpec := { name := "fnExactPathCost", fn := fun _ => fun
  | [d1, d2] => { results := [.lit (.bool true)], args := [d1, d2] }
  | _ => none }
def fnExactPathCostRow : OpenClaim := { program := "ytbammppnijbnhaa", sum := "4d27d604c0f20347a58f2306d1c2b5e03a7cb19e614e0a7160fcc311919f7d50", func := "loop.example/s0019/laws.FnExactPathCost", spec := "fnExactPathCost", apart := false }
def FnExactPathCostSaid : Prop := fnExactPathCostRow.holds Try.pinned (OpenSpec.ofChange fnExactPathCostSpec)

/-- ITS FALSE NEIGHBOUR: 'it returns false'. Refute it at one input. -/
def fnExactPathCostWrong : ChangeSpec := { name := "fnExactPathCost", fn := fun _ => fun
  | [d1, d2] => { results := [.lit (.bool false)], args := [d1, d2] }
  | _ => none }
def FnExactPathCostWrongFalsely : Prop := fnExactPathCostRow.holds Try.pinned (OpenSpec.ofChange fnExactPathCostWrong)

/-- 'laws.FnExactLiftWalk': WHATEVER THE INPUT: true; the input reads as it did. -/
def fnExactLiftWalkSpec : ChangeSpec := { name := "fnExactLiftWalk", fn := fun _ => fun
  | [d1, d2] => { results := [.lit (.bool true)], args := [d1, d2] }
  | _ => none }
def fnExactLiftWalkRow : OpenClaim := { program := "ytbammppnijbnhaa", sum := "4d27d604c0f20347a58f2306d1c2b5e03a7cb19e614e0a7160fcc311919f7d50", func := "loop.example/s0019/laws.FnExactLiftWalk", spec := "fnExactLiftWalk", apart := false }
def FnExactLiftWalkSaid : Prop := fnExactLiftWalkRow.holds Try.pinned (OpenSpec.ofChange fnExactLiftWalkSpec)

/-- ITS FALSE NEIGHBOUR: 'it returns false'. Refute it at one input. -/
def fnExactLiftWalkWrong : ChangeSpec := { name := "fnExactLiftWalk", fn := fun _ => fun
  | [d1, d2] => { results := [.lit (.bool false)], args := [d1, d2] }
  | _ => none }
def FnExactLiftWalkWrongFalsely : Prop := fnExactLiftWalkRow.holds Try.pinned (OpenSpec.ofChange fnExactLiftWalkWrong)

/-- 'laws.FnExactPathEdges': WHATEVER THE INPUT: true; the input reads as it did. -/
def fnExactPathEdgesSpec : ChangeSpec := { name := "fnExactPathEdges", fn := fun _ => fun
  | [d1, d2] => { results := [.lit (.bool true)], args := [d1, d2] }
  | _ => none }
def fnExactPathEdgesRow : OpenClaim := { program := "ytbammppnijbnhaa", sum := "4d27d604c0f20347a58f2306d1c2b5e03a7cb19e614e0a7160fcc311919f7d50", func := "loop.example/s0019/laws.FnExactPathEdges", spec := "fnExactPathEdges", apart := false }
def FnExactPathEdgesSaid : Prop := fnExactPathEdgesRow.holds Try.pinned (OpenSpec.ofChange fnExactPathEdgesSpec)

/-- ITS FALSE NEIGHBOUR: 'it returns false'. Refute it at one input. -/
def fnExactPathEdgesWrong : ChangeSpec := { name := "fnExactPathEdges", fn := fun _ => fun
  | [d1, d2] => { results := [.lit (.bool false)], args := [d1, d2] }
  | _ => none }
def FnExactPathEdgesWrongFalsely : Prop := fnExactPathEdgesRow.holds Try.pinned (OpenSpec.ofChange fnExactPathEdgesWrong)

/- THE SECOND FORM. 'bulk': how many values and letters a reading holds, each counted each time it is reached (what is shared counts as often as it is met; a slice's spare places count too). A statement '..UptoSaid' is the law's where the arguments, and the package variables that the reading takes, are together of bulk at most 1048576: NARROWER than '..Said'. Prove '..Said' where nothing that the law and all that it calls make is longer than what came in: it says more and counts as full. Else prove '..UptoSaid'. A law counts once. -/
mutual
def uptoBulk {H : Type} : DataW H → Nat
  | .lit (.string bytes) => bytes.length + 1
  | .lit _ => 1
  | .nil => 1
  | .ptr d => uptoBulk d + 1
  | .slice elems spare => uptoBulkAll elems + uptoBulkAll spare + 1
  | .agg parts => uptoBulkAll parts + 1
  | .iface _ d => uptoBulk d + 1
  | .map entries => uptoBulkEntries entries + 1
  | .held _ => 1
def uptoBulkAll {H : Type} : List (DataW H) → Nat
  | [] => 0
  | d :: r => uptoBulk d + uptoBulkAll r
def uptoBulkEntries {H : Type} : List (Lit × DataW H) → Nat
  | [] => 0
  | x :: r => uptoBulkEntry x + uptoBulkEntries r
def uptoBulkEntry {H : Type} : Lit × DataW H → Nat
  | (.string bytes, d) => bytes.length + uptoBulk d + 1
  | (_, d) => uptoBulk d + 1
 end
def uptoSmall : (H : Type) → List (DataW H) → Bool := fun _ ds => decide (uptoBulkAll ds ≤ 1048576)
def OpenSpec.upto (s : _root_.Go.ChangeSpec) : _root_.Go.OpenSpec := { _root_.Go.OpenSpec.ofChange s with cond := some uptoSmall }

/-- 'laws.FnExactConstants', WHERE WHAT IT READS IS OF BULK AT MOST 1048576: true; the input reads as it did. -/
def fnExactConstantsUptoRow : OpenClaim := { program := "ytbammppnijbnhaa", sum := "4d27d604c0f20347a58f2306d1c2b5e03a7cb19e614e0a7160fcc311919f7d50", func := "loop.example/s0019/laws.FnExactConstants", spec := "fnExactConstants", apart := false, narrowed := true }
def FnExactConstantsUptoSaid : Prop := fnExactConstantsUptoRow.holds Try.pinned (OpenSpec.upto fnExactConstantsSpec)

/-- 'laws.FnExactValidGraph', WHERE WHAT IT READS IS OF BULK AT MOST 1048576: true; the input reads as it did. -/
def fnExactValidGraphUptoRow : OpenClaim := { program := "ytbammppnijbnhaa", sum := "4d27d604c0f20347a58f2306d1c2b5e03a7cb19e614e0a7160fcc311919f7d50", func := "loop.example/s0019/laws.FnExactValidGraph", spec := "fnExactValidGraph", apart := false, narrowed := true }
def FnExactValidGraphUptoSaid : Prop := fnExactValidGraphUptoRow.holds Try.pinned (OpenSpec.upto fnExactValidGraphSpec)

/-- 'laws.FnExactPathCost', WHERE WHAT IT READS IS OF BULK AT MOST 1048576: true; the input reads as it did. -/
def fnExactPathCostUptoRow : OpenClaim := { program := "ytbammppnijbnhaa", sum := "4d27d604c0f20347a58f2306d1c2b5e03a7cb19e614e0a7160fcc311919f7d50", func := "loop.example/s0019/laws.FnExactPathCost", spec := "fnExactPathCost", apart := false, narrowed := true }
def FnExactPathCostUptoSaid : Prop := fnExactPathCostUptoRow.holds Try.pinned (OpenSpec.upto fnExactPathCostSpec)

/-- 'laws.FnExactLiftWalk', WHERE WHAT IT READS IS OF BULK AT MOST 1048576: true; the input reads as it did. -/
def fnExactLiftWalkUptoRow : OpenClaim := { program := "ytbammppnijbnhaa", sum := "4d27d604c0f20347a58f2306d1c2b5e03a7cb19e614e0a7160fcc311919f7d50", func := "loop.example/s0019/laws.FnExactLiftWalk", spec := "fnExactLiftWalk", apart := false, narrowed := true }
def FnExactLiftWalkUptoSaid : Prop := fnExactLiftWalkUptoRow.holds Try.pinned (OpenSpec.upto fnExactLiftWalkSpec)

/-- 'laws.FnExactPathEdges', WHERE WHAT IT READS IS OF BULK AT MOST 1048576: true; the input reads as it did. -/
def fnExactPathEdgesUptoRow : OpenClaim := { program := "ytbammppnijbnhaa", sum := "4d27d604c0f20347a58f2306d1c2b5e03a7cb19e614e0a7160fcc311919f7d50", func := "loop.example/s0019/laws.FnExactPathEdges", spec := "fnExactPathEdges", apart := false, narrowed := true }
def FnExactPathEdgesUptoSaid : Prop := fnExactPathEdgesUptoRow.holds Try.pinned (OpenSpec.upto fnExactPathEdgesSpec)

end Rows
end Go.Proofs.Ytbammppnijbnhaa
