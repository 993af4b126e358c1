/- The law FnExactShortest returns true, for every input, without any condition. The walk is by a calculus of our own over the model's code. -/
import Derived.Test.YthiflnpbamlinaaRows
import Derived.WalkKit
import Derived.ProofKit
import Derived.OpenShut
import Derived.ShutString
import Derived.ChangeOld
import Derived.Below
import Derived.Carry
import Derived.SizedLaws
import Derived.Test.YthiflnpbamlinaaG1
import Derived.Test.YthiflnpbamlinaaG2
import Derived.Test.YthiflnpbamlinaaG3
import Derived.Test.YthiflnpbamlinaaG4
import Derived.Test.YthiflnpbamlinaaG5
import Derived.Test.YthiflnpbamlinaaG6
import Derived.Test.YthiflnpbamlinaaG7
import Derived.Test.YthiflnpbamlinaaG8
import Derived.Test.YthiflnpbamlinaaG9
import Derived.Test.YthiflnpbamlinaaG10
import Derived.Test.YthiflnpbamlinaaG11
import Derived.Test.YthiflnpbamlinaaG12
import Derived.Test.YthiflnpbamlinaaG13
import Derived.Test.YthiflnpbamlinaaG14
import Derived.Test.YthiflnpbamlinaaG15
import Derived.Test.YthiflnpbamlinaaG16
import Derived.Test.YthiflnpbamlinaaG17
namespace Go.Proofs.Ythiflnpbamlinaa.fnExactShortest
open Go.ChangeShapes Go.WideShapes Go.ChangeAt Go.RowKit
open Go.ChangeMaps (open_string shut_string)
open Cal
set_option linter.unusedVariables false
theorem own : ownKnob Try.prog.godebug = none := by kernel_rfl
theorem laidOut : laidOutB Try.prog = true := by kernel_rfl
set_option maxRecDepth 100000 in
theorem lifted (os : Os) (started : os.Started) (H : Type) (enc : TypeId × Value → H) :
    ReturnsInHanded {} Try.checked os 4 .any (Rows.fnExactShortestSpec.pre6 enc Try.prog Try.f4 Rows.fnExactShortestRow.domain false) (Rows.fnExactShortestSpec.post enc Try.prog Try.f4 false true false false) := by
  refine returnsInHanded_of_change_sized (C := Try.checked) own started (by kernel_rfl) Try.func4
    (ChangeSpec.witness6 (enc := enc) (C := Try.checked) false ⟨#[], #[.agg #[.slice none 0 0, .slice none 0 0, .slice none 0 0, .slice none 0 0, .slice none 0 0, .slice none 0 0, .slice none 0 0], .int .i64 0, .int .i64 0], []⟩ 8 (by kernel_rfl) (by kernel_rfl) (by kernel_rfl) (by kernel_rfl)) ?_
  intro W base args ds gs before hval0 hW hcnd hsz0 _
  have hval : ∀ (j : Nat) t v, Try.f4.params[j]? = some t → args[j]? = some v → Value.okWide Try.prog W .any base t v := hval0
  have hW' := hW
  obtain ⟨p, q, hA0, hV, rfl, hfz, hnd⟩ := hW
  have hA : DataW.TrodAll enc Try.prog W 0 (fun _ => true) true Try.f4.params.toList args.toList ds p := hA0
  rw [Try.params4] at hA hval
  obtain ⟨v0, vs0, d0, ds0, p0, q0, hargs, rfl, rfl, h0, r0⟩ := trodAll_cons hA
  obtain ⟨v1, vs1, d1, ds1, p1, q1, rfl, rfl, rfl, h1, r1⟩ := trodAll_cons r0
  obtain ⟨v2, vs2, d2, ds2, p2, q2, rfl, rfl, rfl, h2, r2⟩ := trodAll_cons r1
  obtain ⟨rfl, rfl, rfl⟩ := trodAll_nil r2
  obtain rfl : args = #[v0, v1, v2] := by cases args; simp_all
  obtain ⟨rfl, rfl⟩ := trodVars_none hV
  have lt0 : ∀ x ∈ p0, x.block < W.heap.size := by obtain ⟨m, hm⟩ := h0; exact DataW.trod_lt m _ _ _ hm
  obtain ⟨xs0, f0, a0⟩ := arg_agg (n := 8) (shs := [.sl [.int .i64], .sl [.int .i64], .sl [.int .i64], .sl [.int .i64], .sl [.int .i64], .sl [.int .i64], .sl [.int .i64]]) (by kernel_rfl) (by kernel_rfl) (hval 0 45 v0 rfl rfl) h0
  obtain ⟨g0, rfl, e0⟩ := fits_graph f0
  have lt1 : ∀ x ∈ p1, x.block < W.heap.size := by obtain ⟨m, hm⟩ := h1; exact DataW.trod_lt m _ _ _ hm
  obtain ⟨x1, f1, a1⟩ := arg_val (n := 8) (sh := .int .i64) (by kernel_rfl) (by obtain ⟨a, rfl⟩ := okWide_int Try.underlying2 (hval 1 2 v1 rfl rfl); rfl) h1
  obtain ⟨l1, rfl, z1⟩ := fits_int f1
  have lt2 : ∀ x ∈ p2, x.block < W.heap.size := by obtain ⟨m, hm⟩ := h2; exact DataW.trod_lt m _ _ _ hm
  obtain ⟨x2, f2, a2⟩ := arg_val (n := 8) (sh := .int .i64) (by kernel_rfl) (by obtain ⟨a, rfl⟩ := okWide_int Try.underlying2 (hval 2 2 v2 rfl rfl); rfl) h2
  obtain ⟨l2, rfl, z2⟩ := fits_int f2
  refine (law_calls (us := [v0, v1, v2]) (Cal.lawS g0 l1 l2 e0 z1 z2) ⟨v0, [v1, v2], [], [], rfl, rfl, a0, v1, [v2], [], [], rfl, rfl, a1, v2, [], [], [], rfl, rfl, a2, rfl, rfl⟩ (by intro p hp; unfold fixed at hp; cases hp)).mono fun e W' ⟨he, bel⟩ => ?_
  subst he
  exact ⟨_, rfl, _, _, _, [], _, [], hW', trodAll_mk1 (shut_bool Try.underlying4 _), (trodAll_cons_mk (Below.trod laidOut (by kernel_rfl) (of_decide_eq_true (by kernel_rfl)) h0 bel lt0) (trodAll_cons_mk (Below.trod laidOut (by kernel_rfl) (of_decide_eq_true (by kernel_rfl)) h1 bel lt1) (trodAll_cons_mk (Below.trod laidOut (by kernel_rfl) (of_decide_eq_true (by kernel_rfl)) h2 bel lt2) trodAll_mk0))), rfl, bel.frame _, fun h => by cases h⟩
theorem over : Rows.fnExactShortestRow.holds Try.pinned (OpenSpec.ofChange Rows.fnExactShortestSpec) :=
  OpenClaim.holds_of_wide 4 Try.f4 rfl rfl rfl rfl rfl rfl rfl ⟨rfl, rfl, rfl, rfl, rfl⟩ rfl rfl rfl rfl rfl (by kernel_rfl) Try.func4 (by kernel_rfl)
    (of_decide_eq_true (by kernel_rfl)) (by unfold Func.isWrapper; first | (rw [if_pos (by decide +kernel)]; kernel_rfl) | (rw [if_neg (by decide +kernel)]; exact ⟨rfl, rfl⟩))
    (fun os started H enc _ => lifted os started H enc)
/-- The statement. -/
theorem proved : Rows.FnExactShortestSaid := over
#print axioms proved
end Go.Proofs.Ythiflnpbamlinaa.fnExactShortest
