/-
  No cell of these rows narrows 'for every input' (looked for: loops, veiled, ifaces, maps, wideKeys, modest, calm, conditions, laid).
  DERIVED. THE GIVEN ROWS OF THIS SEAT. 8 by the template 'for every input the law returns true; each argument reads behind the call as it read before'; 0 by the template 'total and deterministic' (their statements: YthiflnpbamlinaaTotals.lean).
  GIVEN WITH THE SEED: the statements are not yours to turn. If you find one false, say at which input.
  Laid BY PROGRAM, IN A SANDBOX (cutbox-rows.mjs): the forced cells as the released guide's own fill.sh prints them over the translation d512736c557e7be8… (all of the seat's roots in one cut). By AI agents, Wed Nov 11 2026. No macro, syntax, notation, axiom, sorry.
-/
import Derived.Test.YthiflnpbamlinaaChecked
import GoSem.Claim
import GoSem.ClaimJoined
import GoSem.ClaimMapViews
import Derived.JoinedTies
import Derived.KernelRfl
namespace Go.Proofs.Ythiflnpbamlinaa
/- THE CELL 'sum', in the pinned program and in every row, IS THE sha256 OF THE DUMP (.gsa) THAT YthiflnpbamlinaaProg.lean LOADS. Nothing in Lean hashes anything: it is a label: what it is worth is what the hold of that sum in a sandbox is worth. -/
noncomputable def Try.pinned : Pinned := { name := "ythiflnpbamlinaa", sum := "d512736c557e7be8a736df7615247d80f19ccb7f48337e6678323d09ff169e78", checked := Try.checked }
namespace Rows
def none {H : Type} : Left H := { results := [], args := [] }

/-- 'laws.FnExactBuildRoad': WHATEVER THE INPUT: true; the input reads as it did. -/
def fnExactBuildRoadSpec : ChangeSpec := { name := "fnExactBuildRoad", fn := fun _ => fun
  | [d] => { results := [.lit (.bool true)], args := [d] }
  | _ => none }
def fnExactBuildRoadRow : OpenClaim := { program := "ythiflnpbamlinaa", sum := "d512736c557e7be8a736df7615247d80f19ccb7f48337e6678323d09ff169e78", func := "loop.example/s0019/laws.FnExactBuildRoad", spec := "fnExactBuildRoad", plainKeys := false, apart := false }
def FnExactBuildRoadSaid : Prop := fnExactBuildRoadRow.holds Try.pinned (OpenSpec.ofChange fnExactBuildRoadSpec)

/-- ITS FALSE NEIGHBOUR: 'it returns false'. Refute it at one input. -/
def fnExactBuildRoadWrong : ChangeSpec := { name := "fnExactBuildRoad", fn := fun _ => fun
  | [d] => { results := [.lit (.bool false)], args := [d] }
  | _ => none }
def FnExactBuildRoadWrongFalsely : Prop := fnExactBuildRoadRow.holds Try.pinned (OpenSpec.ofChange fnExactBuildRoadWrong)

/-- 'laws.FnExactShortest': WHATEVER THE INPUT: true; the input reads as it did. -/
def fnExactShortestSpec : ChangeSpec := { name := "fnExactShortest", fn := fun _ => fun
  | [d1, d2, d3] => { results := [.lit (.bool true)], args := [d1, d2, d3] }
  | _ => none }
def fnExactShortestRow : OpenClaim := { program := "ythiflnpbamlinaa", sum := "d512736c557e7be8a736df7615247d80f19ccb7f48337e6678323d09ff169e78", func := "loop.example/s0019/laws.FnExactShortest", spec := "fnExactShortest", unfollowed := true, recurses := true, plainKeys := false, apart := false }
def FnExactShortestSaid : Prop := fnExactShortestRow.holds Try.pinned (OpenSpec.ofChange fnExactShortestSpec)

/-- ITS FALSE NEIGHBOUR: 'it returns false'. Refute it at one input. -/
def fnExactShortestWrong : ChangeSpec := { name := "fnExactShortest", fn := fun _ => fun
  | [d1, d2, d3] => { results := [.lit (.bool false)], args := [d1, d2, d3] }
  | _ => none }
def FnExactShortestWrongFalsely : Prop := fnExactShortestRow.holds Try.pinned (OpenSpec.ofChange fnExactShortestWrong)

/-- 'laws.FnExactBuildAuto': WHATEVER THE INPUT: true; the input reads as it did. -/
def fnExactBuildAutoSpec : ChangeSpec := { name := "fnExactBuildAuto", fn := fun _ => fun
  | [d] => { results := [.lit (.bool true)], args := [d] }
  | _ => none }
def fnExactBuildAutoRow : OpenClaim := { program := "ythiflnpbamlinaa", sum := "d512736c557e7be8a736df7615247d80f19ccb7f48337e6678323d09ff169e78", func := "loop.example/s0019/laws.FnExactBuildAuto", spec := "fnExactBuildAuto", recurses := true, plainKeys := false, apart := false }
def FnExactBuildAutoSaid : Prop := fnExactBuildAutoRow.holds Try.pinned (OpenSpec.ofChange fnExactBuildAutoSpec)

/-- ITS FALSE NEIGHBOUR: 'it returns false'. Refute it at one input. -/
def fnExactBuildAutoWrong : ChangeSpec := { name := "fnExactBuildAuto", fn := fun _ => fun
  | [d] => { results := [.lit (.bool false)], args := [d] }
  | _ => none }
def FnExactBuildAutoWrongFalsely : Prop := fnExactBuildAutoRow.holds Try.pinned (OpenSpec.ofChange fnExactBuildAutoWrong)

/-- 'laws.FnExactJudge': WHATEVER THE INPUT: true; the input reads as it did. -/
def fnExactJudgeSpec : ChangeSpec := { name := "fnExactJudge", fn := fun _ => fun
  | [d1, d2] => { results := [.lit (.bool true)], args := [d1, d2] }
  | _ => none }
def fnExactJudgeRow : OpenClaim := { program := "ythiflnpbamlinaa", sum := "d512736c557e7be8a736df7615247d80f19ccb7f48337e6678323d09ff169e78", func := "loop.example/s0019/laws.FnExactJudge", spec := "fnExactJudge", unfollowed := true, recurses := true, plainKeys := false, apart := false }
def FnExactJudgeSaid : Prop := fnExactJudgeRow.holds Try.pinned (OpenSpec.ofChange fnExactJudgeSpec)

/-- ITS FALSE NEIGHBOUR: 'it returns false'. Refute it at one input. -/
def fnExactJudgeWrong : ChangeSpec := { name := "fnExactJudge", fn := fun _ => fun
  | [d1, d2] => { results := [.lit (.bool false)], args := [d1, d2] }
  | _ => none }
def FnExactJudgeWrongFalsely : Prop := fnExactJudgeRow.holds Try.pinned (OpenSpec.ofChange fnExactJudgeWrong)

/-- 'laws.FnExactResolve': WHATEVER THE INPUT: true; the input reads as it did. -/
def fnExactResolveSpec : ChangeSpec := { name := "fnExactResolve", fn := fun _ => fun
  | [d] => { results := [.lit (.bool true)], args := [d] }
  | _ => none }
def fnExactResolveRow : OpenClaim := { program := "ythiflnpbamlinaa", sum := "d512736c557e7be8a736df7615247d80f19ccb7f48337e6678323d09ff169e78", func := "loop.example/s0019/laws.FnExactResolve", spec := "fnExactResolve", unfollowed := true, recurses := true, plainKeys := false, apart := false }
def FnExactResolveSaid : Prop := fnExactResolveRow.holds Try.pinned (OpenSpec.ofChange fnExactResolveSpec)

/-- ITS FALSE NEIGHBOUR: 'it returns false'. Refute it at one input. -/
def fnExactResolveWrong : ChangeSpec := { name := "fnExactResolve", fn := fun _ => fun
  | [d] => { results := [.lit (.bool false)], args := [d] }
  | _ => none }
def FnExactResolveWrongFalsely : Prop := fnExactResolveRow.holds Try.pinned (OpenSpec.ofChange fnExactResolveWrong)

/-- 'laws.FnLongest': WHATEVER THE INPUT: true; the input reads as it did. -/
def fnLongestSpec : ChangeSpec := { name := "fnLongest", fn := fun _ => fun
  | [d] => { results := [.lit (.bool true)], args := [d] }
  | _ => none }
def fnLongestRow : OpenClaim := { program := "ythiflnpbamlinaa", sum := "d512736c557e7be8a736df7615247d80f19ccb7f48337e6678323d09ff169e78", func := "loop.example/s0019/laws.FnLongest", spec := "fnLongest", plainKeys := false, apart := false }
def FnLongestSaid : Prop := fnLongestRow.holds Try.pinned (OpenSpec.ofChange fnLongestSpec)

/-- ITS FALSE NEIGHBOUR: 'it returns false'. Refute it at one input. -/
def fnLongestWrong : ChangeSpec := { name := "fnLongest", fn := fun _ => fun
  | [d] => { results := [.lit (.bool false)], args := [d] }
  | _ => none }
def FnLongestWrongFalsely : Prop := fnLongestRow.holds Try.pinned (OpenSpec.ofChange fnLongestWrong)

/-- 'laws.FnResolveAccounts': WHATEVER THE INPUT: true; the input reads as it did. -/
def fnResolveAccountsSpec : ChangeSpec := { name := "fnResolveAccounts", fn := fun _ => fun
  | [d] => { results := [.lit (.bool true)], args := [d] }
  | _ => none }
def fnResolveAccountsRow : OpenClaim := { program := "ythiflnpbamlinaa", sum := "d512736c557e7be8a736df7615247d80f19ccb7f48337e6678323d09ff169e78", func := "loop.example/s0019/laws.FnResolveAccounts", spec := "fnResolveAccounts", unfollowed := true, recurses := true, plainKeys := false, apart := false }
def FnResolveAccountsSaid : Prop := fnResolveAccountsRow.holds Try.pinned (OpenSpec.ofChange fnResolveAccountsSpec)

/-- ITS FALSE NEIGHBOUR: 'it returns false'. Refute it at one input. -/
def fnResolveAccountsWrong : ChangeSpec := { name := "fnResolveAccounts", fn := fun _ => fun
  | [d] => { results := [.lit (.bool false)], args := [d] }
  | _ => none }
def FnResolveAccountsWrongFalsely : Prop := fnResolveAccountsRow.holds Try.pinned (OpenSpec.ofChange fnResolveAccountsWrong)

/-- 'laws.FnAutoKeeps': WHATEVER THE INPUT: true; the input reads as it did. -/
def fnAutoKeepsSpec : ChangeSpec := { name := "fnAutoKeeps", fn := fun _ => fun
  | [d1, d2] => { results := [.lit (.bool true)], args := [d1, d2] }
  | _ => none }
def fnAutoKeepsRow : OpenClaim := { program := "ythiflnpbamlinaa", sum := "d512736c557e7be8a736df7615247d80f19ccb7f48337e6678323d09ff169e78", func := "loop.example/s0019/laws.FnAutoKeeps", spec := "fnAutoKeeps", recurses := true, plainKeys := false, apart := false }
def FnAutoKeepsSaid : Prop := fnAutoKeepsRow.holds Try.pinned (OpenSpec.ofChange fnAutoKeepsSpec)

/-- ITS FALSE NEIGHBOUR: 'it returns false'. Refute it at one input. -/
def fnAutoKeepsWrong : ChangeSpec := { name := "fnAutoKeeps", fn := fun _ => fun
  | [d1, d2] => { results := [.lit (.bool false)], args := [d1, d2] }
  | _ => none }
def FnAutoKeepsWrongFalsely : Prop := fnAutoKeepsRow.holds Try.pinned (OpenSpec.ofChange fnAutoKeepsWrong)

/- THE SECOND FORM. 'bulk': how many values and letters a reading holds, each counted each time it is reached (what is shared counts as often as it is met; a slice's spare places count too). A statement '..UptoSaid' is the law's where the arguments, and the package variables that the reading takes, are together of bulk at most 1048576: NARROWER than '..Said'. Prove '..Said' where nothing that the law and all that it calls make is longer than what came in: it says more and counts as full. Else prove '..UptoSaid'. A law counts once. -/
mutual
def uptoBulk {H : Type} : DataW H → Nat
  | .lit (.string bytes) => bytes.length + 1
  | .lit _ => 1
  | .nil => 1
  | .ptr d => uptoBulk d + 1
  | .slice elems spare => uptoBulkAll elems + uptoBulkAll spare + 1
  | .agg parts => uptoBulkAll parts + 1
  | .iface _ d => uptoBulk d + 1
  | .map entries => uptoBulkEntries entries + 1
  | .held _ => 1
def uptoBulkAll {H : Type} : List (DataW H) → Nat
  | [] => 0
  | d :: r => uptoBulk d + uptoBulkAll r
def uptoBulkEntries {H : Type} : List (Lit × DataW H) → Nat
  | [] => 0
  | x :: r => uptoBulkEntry x + uptoBulkEntries r
def uptoBulkEntry {H : Type} : Lit × DataW H → Nat
  | (.string bytes, d) => bytes.length + uptoBulk d + 1
  | (_, d) => uptoBulk d + 1
 end
def uptoSmall : (H : Type) → List (DataW H) → Bool := fun _ ds => decide (uptoBulkAll ds ≤ 1048576)
def OpenSpec.upto (s : _root_.Go.ChangeSpec) : _root_.Go.OpenSpec := { _root_.Go.OpenSpec.ofChange s with cond := some uptoSmall }

/-- 'laws.FnExactBuildRoad', WHERE WHAT IT READS IS OF BULK AT MOST 1048576: true; the input reads as it did. -/
def fnExactBuildRoadUptoRow : OpenClaim := { program := "ythiflnpbamlinaa", sum := "d512736c557e7be8a736df7615247d80f19ccb7f48337e6678323d09ff169e78", func := "loop.example/s0019/laws.FnExactBuildRoad", spec := "fnExactBuildRoad", plainKeys := false, apart := false, narrowed := true }
def FnExactBuildRoadUptoSaid : Prop := fnExactBuildRoadUptoRow.holds Try.pinned (OpenSpec.upto fnExactBuildRoadSpec)

/-- 'laws.FnExactShortest', WHERE WHAT IT READS IS OF BULK AT MOST 1048576: true; the input reads as it did. -/
def fnExactShortestUptoRow : OpenClaim := { program := "ythiflnpbamlinaa", sum := "d512736c557e7be8a736df7615247d80f19ccb7f48337e6678323d09ff169e78", func := "loop.example/s0019/laws.FnExactShortest", spec := "fnExactShortest", unfollowed := true, recurses := true, plainKeys := false, apart := false, narrowed := true }
def FnExactShortestUptoSaid : Prop := fnExactShortestUptoRow.holds Try.pinned (OpenSpec.upto fnExactShortestSpec)

/-- 'laws.FnExactBuildAuto', WHERE WHAT IT READS IS OF BULK AT MOST 1048576: true; the input reads as it did. -/
def fnExactBuildAutoUptoRow : OpenClaim := { program := "ythiflnpbamlinaa", sum := "d512736c557e7be8a736df7615247d80f19ccb7f48337e6678323d09ff169e78", func := "loop.example/s0019/laws.FnExactBuildAuto", spec := "fnExactBuildAuto", recurses := true, plainKeys := false, apart := false, narrowed := true }
def FnExactBuildAutoUptoSaid : Prop := fnExactBuildAutoUptoRow.holds Try.pinned (OpenSpec.upto fnExactBuildAutoSpec)

/-- 'laws.FnExactJudge', WHERE WHAT IT READS IS OF BULK AT MOST 1048576: true; the input reads as it did. -/
def fnExactJudgeUptoRow : OpenClaim := { program := "ythiflnpbamlinaa", sum := "d512736c557e7be8a736df7615247d80f19ccb7f48337e6678323d09ff169e78", func := "loop.example/s0019/laws.FnExactJudge", spec := "fnExactJudge", unfollowed := true, recurses := true, plainKeys := false, apart := false, narrowed := true }
def FnExactJudgeUptoSaid : Prop := fnExactJudgeUptoRow.holds Try.pinned (OpenSpec.upto fnExactJudgeSpec)

/-- 'laws.FnExactResolve', WHERE WHAT IT READS IS OF BULK AT MOST 1048576: true; the input reads as it did. -/
def fnExactResolveUptoRow : OpenClaim := { program := "ythiflnpbamlinaa", sum := "d512736c557e7be8a736df7615247d80f19ccb7f48337e6678323d09ff169e78", func := "loop.example/s0019/laws.FnExactResolve", spec := "fnExactResolve", unfollowed := true, recurses := true, plainKeys := false, apart := false, narrowed := true }
def FnExactResolveUptoSaid : Prop := fnExactResolveUptoRow.holds Try.pinned (OpenSpec.upto fnExactResolveSpec)

/-- 'laws.FnLongest', WHERE WHAT IT READS IS OF BULK AT MOST 1048576: true; the input reads as it did. -/
def fnLongestUptoRow : OpenClaim := { program := "ythiflnpbamlinaa", sum := "d512736c557e7be8a736df7615247d80f19ccb7f48337e6678323d09ff169e78", func := "loop.example/s0019/laws.FnLongest", spec := "fnLongest", plainKeys := false, apart := false, narrowed := true }
def FnLongestUptoSaid : Prop := fnLongestUptoRow.holds Try.pinned (OpenSpec.upto fnLongestSpec)

/-- 'laws.FnResolveAccounts', WHERE WHAT IT READS IS OF BULK AT MOST 1048576: true; the input reads as it did. -/
def fnResolveAccountsUptoRow : OpenClaim := { program := "ythiflnpbamlinaa", sum := "d512736c557e7be8a736df7615247d80f19ccb7f48337e6678323d09ff169e78", func := "loop.example/s0019/laws.FnResolveAccounts", spec := "fnResolveAccounts", unfollowed := true, recurses := true, plainKeys := false, apart := false, narrowed := true }
def FnResolveAccountsUptoSaid : Prop := fnResolveAccountsUptoRow.holds Try.pinned (OpenSpec.upto fnResolveAccountsSpec)

/-- 'laws.FnAutoKeeps', WHERE WHAT IT READS IS OF BULK AT MOST 1048576: true; the input reads as it did. -/
def fnAutoKeepsUptoRow : OpenClaim := { program := "ythiflnpbamlinaa", sum := "d512736c557e7be8a736df7615247d80f19ccb7f48337e6678323d09ff169e78", func := "loop.example/s0019/laws.FnAutoKeeps", spec := "fnAutoKeeps", recurses := true, plainKeys := false, apart := false, narrowed := true }
def FnAutoKeepsUptoSaid : Prop := fnAutoKeepsUptoRow.holds Try.pinned (OpenSpec.upto fnAutoKeepsSpec)

end Rows
end Go.Proofs.Ythiflnpbamlinaa
