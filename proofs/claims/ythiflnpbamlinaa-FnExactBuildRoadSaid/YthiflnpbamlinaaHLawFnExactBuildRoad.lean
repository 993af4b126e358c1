/- The law FnExactBuildRoad returns true, for every input, without any condition. The walk is by a calculus of our own over the model's code. -/
import Derived.Test.YthiflnpbamlinaaRows
import Derived.WalkKit
import Derived.ProofKit
import Derived.OpenShut
import Derived.ShutString
import Derived.ChangeOld
import Derived.Below
import Derived.Carry
import Derived.SizedLaws
import Derived.Test.YthiflnpbamlinaaG1
import Derived.Test.YthiflnpbamlinaaG2
import Derived.Test.YthiflnpbamlinaaG3
import Derived.Test.YthiflnpbamlinaaG4
import Derived.Test.YthiflnpbamlinaaG5
import Derived.Test.YthiflnpbamlinaaG6
import Derived.Test.YthiflnpbamlinaaG7
import Derived.Test.YthiflnpbamlinaaG8
import Derived.Test.YthiflnpbamlinaaG9
import Derived.Test.YthiflnpbamlinaaG10
import Derived.Test.YthiflnpbamlinaaG11
import Derived.Test.YthiflnpbamlinaaG12
import Derived.Test.YthiflnpbamlinaaG13
import Derived.Test.YthiflnpbamlinaaG14
import Derived.Test.YthiflnpbamlinaaG15
namespace Go.Proofs.Ythiflnpbamlinaa.fnExactBuildRoad
open Go.ChangeShapes Go.WideShapes Go.ChangeAt Go.RowKit
open Go.ChangeMaps (open_string shut_string)
open Cal
set_option linter.unusedVariables false
theorem own : ownKnob Try.prog.godebug = none := by kernel_rfl
theorem laidOut : laidOutB Try.prog = true := by kernel_rfl
set_option maxRecDepth 100000 in
theorem lifted (os : Os) (started : os.Started) (H : Type) (enc : TypeId × Value → H) :
    ReturnsInHanded {} Try.checked os 3 .any (Rows.fnExactBuildRoadSpec.pre6 enc Try.prog Try.f3 Rows.fnExactBuildRoadRow.domain false) (Rows.fnExactBuildRoadSpec.post enc Try.prog Try.f3 false true false false) := by
  refine returnsInHanded_of_change_sized (C := Try.checked) own started (by kernel_rfl) Try.func3
    (ChangeSpec.witness6 (enc := enc) (C := Try.checked) false ⟨#[], #[.agg #[.slice none 0 0, .slice none 0 0, .slice none 0 0, .slice none 0 0, .int .i64 0]], []⟩ 8 (by kernel_rfl) (by kernel_rfl) (by kernel_rfl) (by kernel_rfl)) ?_
  intro W base args ds gs before hval0 hW hcnd hsz0 _
  have hval : ∀ (j : Nat) t v, Try.f3.params[j]? = some t → args[j]? = some v → Value.okWide Try.prog W .any base t v := hval0
  have hW' := hW
  obtain ⟨p, q, hA0, hV, rfl, hfz, hnd⟩ := hW
  have hA : DataW.TrodAll enc Try.prog W 0 (fun _ => true) true Try.f3.params.toList args.toList ds p := hA0
  rw [Try.params3] at hA hval
  obtain ⟨v0, vs0, d0, ds0, p0, q0, hargs, rfl, rfl, h0, r0⟩ := trodAll_cons hA
  obtain ⟨rfl, rfl, rfl⟩ := trodAll_nil r0
  obtain rfl : args = #[v0] := by cases args; simp_all
  obtain ⟨rfl, rfl⟩ := trodVars_none hV
  have lt0 : ∀ x ∈ p0, x.block < W.heap.size := by obtain ⟨m, hm⟩ := h0; exact DataW.trod_lt m _ _ _ hm
  obtain ⟨xs0, f0, a0⟩ := arg_agg (n := 8) (shs := [.sl [.int .i64], .sl [.int .i64, .bool, .sl [.int .i64], .sl [.int .i64]], .sl [.int .i64, .bool, .int .i64, .int .i64, .bool, .int .i64, .sl [.int .i64]], .sl [.int .i64, .int .i64, .int .i64], .int .i64]) (by kernel_rfl) (by kernel_rfl) (hval 0 27 v0 rfl rfl) h0
  obtain ⟨g0, rfl, e0⟩ := fits_net f0
  refine (law_calls (us := [v0]) (lawBR g0 e0) ⟨v0, [], [], [], rfl, rfl, a0, rfl, rfl⟩).mono fun e W' ⟨he, bel⟩ => ?_
  subst he
  exact ⟨_, rfl, _, _, _, [], _, [], hW', trodAll_mk1 (shut_bool Try.underlying4 _), (trodAll_cons_mk (Below.trod laidOut (by kernel_rfl) (of_decide_eq_true (by kernel_rfl)) h0 bel lt0) trodAll_mk0), rfl, bel.frame _, fun h => by cases h⟩
theorem over : Rows.fnExactBuildRoadRow.holds Try.pinned (OpenSpec.ofChange Rows.fnExactBuildRoadSpec) :=
  OpenClaim.holds_of_wide 3 Try.f3 rfl rfl rfl rfl rfl rfl rfl ⟨rfl, rfl, rfl, rfl, rfl⟩ rfl rfl rfl rfl rfl (by kernel_rfl) Try.func3 (by kernel_rfl)
    (of_decide_eq_true (by kernel_rfl)) (by unfold Func.isWrapper; first | (rw [if_pos (by decide +kernel)]; kernel_rfl) | (rw [if_neg (by decide +kernel)]; exact ⟨rfl, rfl⟩))
    (fun os started H enc _ => lifted os started H enc)
/-- The statement. -/
theorem proved : Rows.FnExactBuildRoadSaid := over
#print axioms proved
end Go.Proofs.Ythiflnpbamlinaa.fnExactBuildRoad
