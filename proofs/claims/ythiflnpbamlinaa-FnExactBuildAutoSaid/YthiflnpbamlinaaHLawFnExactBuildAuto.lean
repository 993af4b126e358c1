/- The law FnExactBuildAuto returns true, for every input, without any condition. The walk is by a calculus of our own over the model's code. -/
import Derived.Test.YthiflnpbamlinaaRows
import Derived.WalkKit
import Derived.ProofKit
import Derived.OpenShut
import Derived.ShutString
import Derived.ChangeOld
import Derived.Below
import Derived.Carry
import Derived.SizedLaws
import Derived.Test.YthiflnpbamlinaaG1
import Derived.Test.YthiflnpbamlinaaG2
import Derived.Test.YthiflnpbamlinaaG3
import Derived.Test.YthiflnpbamlinaaG4
import Derived.Test.YthiflnpbamlinaaG5
import Derived.Test.YthiflnpbamlinaaG6
import Derived.Test.YthiflnpbamlinaaG7
import Derived.Test.YthiflnpbamlinaaG8
import Derived.Test.YthiflnpbamlinaaG9
import Derived.Test.YthiflnpbamlinaaG10
import Derived.Test.YthiflnpbamlinaaG11
import Derived.Test.YthiflnpbamlinaaG12
import Derived.Test.YthiflnpbamlinaaG13
import Derived.Test.YthiflnpbamlinaaG14
import Derived.Test.YthiflnpbamlinaaG15
import Derived.Test.YthiflnpbamlinaaG16
import Derived.Test.YthiflnpbamlinaaG17
import Derived.Test.YthiflnpbamlinaaG18
import Derived.Test.YthiflnpbamlinaaG19
namespace Go.Proofs.Ythiflnpbamlinaa.fnExactBuildAuto
open Go.ChangeShapes Go.WideShapes Go.ChangeAt Go.RowKit
open Go.ChangeMaps (open_string shut_string)
open Cal
set_option linter.unusedVariables false
theorem own : ownKnob Try.prog.godebug = none := by kernel_rfl
theorem laidOut : laidOutB Try.prog = true := by kernel_rfl
set_option maxRecDepth 100000 in
theorem lifted (os : Os) (started : os.Started) (H : Type) (enc : TypeId × Value → H) :
    ReturnsInHanded {} Try.checked os 5 .any (Rows.fnExactBuildAutoSpec.pre6 enc Try.prog Try.f5 Rows.fnExactBuildAutoRow.domain false) (Rows.fnExactBuildAutoSpec.post enc Try.prog Try.f5 false true false false) := by
  refine returnsInHanded_of_change_sized (C := Try.checked) own started (by kernel_rfl) Try.func5
    (ChangeSpec.witness6 (enc := enc) (C := Try.checked) false ⟨#[], #[.slice none 0 0], []⟩ 8 (by kernel_rfl) (by kernel_rfl) (by kernel_rfl) (by kernel_rfl)) ?_
  intro W base args ds gs before hval0 hW hcnd hsz0 _
  have hval : ∀ (j : Nat) t v, Try.f5.params[j]? = some t → args[j]? = some v → Value.okWide Try.prog W .any base t v := hval0
  have hW' := hW
  obtain ⟨p, q, hA0, hV, rfl, hfz, hnd⟩ := hW
  have hA : DataW.TrodAll enc Try.prog W 0 (fun _ => true) true Try.f5.params.toList args.toList ds p := hA0
  rw [Try.params5] at hA hval
  obtain ⟨v0, vs0, d0, ds0, p0, q0, hargs, rfl, rfl, h0, r0⟩ := trodAll_cons hA
  obtain ⟨rfl, rfl, rfl⟩ := trodAll_nil r0
  obtain rfl : args = #[v0] := by cases args; simp_all
  obtain ⟨rfl, rfl⟩ := trodVars_none hV
  have lt0 : ∀ x ∈ p0, x.block < W.heap.size := by obtain ⟨m, hm⟩ := h0; exact DataW.trod_lt m _ _ _ hm
  obtain ⟨x0, f0, a0⟩ := arg_val (n := 8) (sh := .sl [.int .i64, .bool, .sl [.int .i64]]) (by kernel_rfl) (by obtain ⟨a, len, cap, rfl⟩ := okWide_slice Try.underlying57 (hval 0 57 v0 rfl rfl); rfl) h0
  obtain ⟨l0, rfl, z0⟩ := fits_rules f0
  refine (law_calls (us := [v0]) (Cal.lawBA l0 z0) ⟨v0, [], [], [], rfl, rfl, a0, rfl, rfl⟩ (by intro p hp; unfold fixed at hp; cases hp)).mono fun e W' ⟨he, bel⟩ => ?_
  subst he
  exact ⟨_, rfl, _, _, _, [], _, [], hW', trodAll_mk1 (shut_bool Try.underlying4 _), (trodAll_cons_mk (Below.trod laidOut (by kernel_rfl) (of_decide_eq_true (by kernel_rfl)) h0 bel lt0) trodAll_mk0), rfl, bel.frame _, fun h => by cases h⟩
theorem over : Rows.fnExactBuildAutoRow.holds Try.pinned (OpenSpec.ofChange Rows.fnExactBuildAutoSpec) :=
  OpenClaim.holds_of_wide 5 Try.f5 rfl rfl rfl rfl rfl rfl rfl ⟨rfl, rfl, rfl, rfl, rfl⟩ rfl rfl rfl rfl rfl (by kernel_rfl) Try.func5 (by kernel_rfl)
    (of_decide_eq_true (by kernel_rfl)) (by unfold Func.isWrapper; first | (rw [if_pos (by decide +kernel)]; kernel_rfl) | (rw [if_neg (by decide +kernel)]; exact ⟨rfl, rfl⟩))
    (fun os started H enc _ => lifted os started H enc)
/-- The statement. -/
theorem proved : Rows.FnExactBuildAutoSaid := over
#print axioms proved
end Go.Proofs.Ythiflnpbamlinaa.fnExactBuildAuto
