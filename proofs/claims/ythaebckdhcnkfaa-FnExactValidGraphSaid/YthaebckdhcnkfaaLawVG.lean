/- The law FnExactValidGraph returns true, for every input, without any condition. The walk is by a calculus of our own over the model's code. -/
import Derived.Test.YthaebckdhcnkfaaRows
import Derived.Test.YthaebckdhcnkfaaT8
import Derived.Test.YthaebckdhcnkfaaCalZg
import Derived.WalkKit
import Derived.ProofKit
import Derived.OpenShut
import Derived.ShutString
import Derived.ChangeOld
import Derived.Below
import Derived.Carry
import Derived.SizedLaws
namespace Go.Proofs.Ythaebckdhcnkfaa.fnExactValidGraph
open Go.ChangeShapes Go.WideShapes Go.ChangeAt Go.RowKit
open Cal
set_option linter.unusedVariables false

theorem own : ownKnob Try.prog.godebug = none := by kernel_rfl
theorem laidOut : laidOutB Try.prog = true := by kernel_rfl

theorem fits_graph {xs : List T} (h : Sh.fitss [.sl [.int .i64], .sl [.int .i64], .sl [.int .i64], .sl [.int .i64], .sl [.int .i64], .sl [.int .i64], .sl [.int .i64]] xs) : ∃ g : Gr, xs = encG g ∧ smallG g := by
  simp only [Sh.fitss] at h
  obtain ⟨x1, _, rfl, f1, x2, _, rfl, f2, x3, _, rfl, f3, x4, _, rfl, f4, x5, _, rfl, f5, x6, _, rfl, f6, x7, _, rfl, f7, rfl⟩ := h
  obtain ⟨l1, rfl, m1, _⟩ := fits_ints f1
  obtain ⟨l2, rfl, m2, _⟩ := fits_ints f2
  obtain ⟨l3, rfl, m3, _⟩ := fits_ints f3
  obtain ⟨l4, rfl, m4, _⟩ := fits_ints f4
  obtain ⟨l5, rfl, m5, _⟩ := fits_ints f5
  obtain ⟨l6, rfl, m6, _⟩ := fits_ints f6
  obtain ⟨l7, rfl, m7, _⟩ := fits_ints f7
  refine ⟨⟨l1, l2, l3, l4, l5, l6, l7⟩, rfl, ?_⟩
  simp only [smallG]
  unfold maxLen at *
  omega

set_option maxRecDepth 100000 in
theorem lifted (os : Os) (started : os.Started) (H : Type) (enc : TypeId × Value → H) :
    ReturnsInHanded {} Try.checked os 3 .any (Rows.fnExactValidGraphSpec.pre6 enc Try.prog Try.f3 Rows.fnExactValidGraphRow.domain false) (Rows.fnExactValidGraphSpec.post enc Try.prog Try.f3 false true false false) := by
  refine returnsInHanded_of_change_sized (C := Try.checked) own started (by kernel_rfl) Try.func3
    (ChangeSpec.witness6 (enc := enc) (C := Try.checked) false ⟨#[], #[.agg #[.slice none 0 0, .slice none 0 0, .slice none 0 0, .slice none 0 0, .slice none 0 0, .slice none 0 0, .slice none 0 0]], []⟩ 8 (by kernel_rfl) (by kernel_rfl) (by kernel_rfl) (by kernel_rfl)) ?_
  intro W base args ds gs before hval0 hW hcnd hsz0 _
  have hval : ∀ (j : Nat) t v, Try.f3.params[j]? = some t → args[j]? = some v → Value.okWide Try.prog W .any base t v := hval0
  have hW' := hW
  obtain ⟨p, q, hA0, hV, rfl, hfz, hnd⟩ := hW
  have hA : DataW.TrodAll enc Try.prog W 0 (fun _ => true) true Try.f3.params.toList args.toList ds p := hA0
  rw [Try.params3] at hA hval
  obtain ⟨v0, vs0, d0, ds0, p0, q0, hargs, rfl, rfl, h0, r0⟩ := trodAll_cons hA
  obtain ⟨rfl, rfl, rfl⟩ := trodAll_nil r0
  obtain rfl : args = #[v0] := by cases args; simp_all
  obtain ⟨rfl, rfl⟩ := trodVars_none hV
  have lt0 : ∀ x ∈ p0, x.block < W.heap.size := by obtain ⟨m, hm⟩ := h0; exact DataW.trod_lt m _ _ _ hm
  obtain ⟨xs, f1, a1⟩ := arg_agg (n := 8) (shs := [.sl [.int .i64], .sl [.int .i64], .sl [.int .i64], .sl [.int .i64], .sl [.int .i64], .sl [.int .i64], .sl [.int .i64]]) (by kernel_rfl) (by kernel_rfl) (hval 0 24 v0 rfl rfl) h0
  obtain ⟨g, rfl, hg⟩ := fits_graph f1
  refine (law_calls (us := [v0]) (lawVG g hg) ⟨v0, [], [], [], rfl, rfl, a1, rfl, rfl⟩).mono fun e W' ⟨he, bel⟩ => ?_
  subst he
  exact ⟨_, rfl, _, _, _, [], _, [], hW', trodAll_mk1 (shut_bool Try.underlying4 _), (trodAll_cons_mk (Below.trod laidOut (by kernel_rfl) (of_decide_eq_true (by kernel_rfl)) h0 bel lt0) trodAll_mk0), rfl, bel.frame _, fun h => by cases h⟩

theorem over : Rows.fnExactValidGraphRow.holds Try.pinned (OpenSpec.ofChange Rows.fnExactValidGraphSpec) :=
  OpenClaim.holds_of_wide 3 Try.f3 rfl rfl rfl rfl rfl rfl rfl ⟨rfl, rfl, rfl, rfl, rfl⟩ rfl rfl rfl rfl rfl (by kernel_rfl) Try.func3 (by kernel_rfl)
    (of_decide_eq_true (by kernel_rfl)) (by unfold Func.isWrapper; first | (rw [if_pos (by decide +kernel)]; kernel_rfl) | (rw [if_neg (by decide +kernel)]; exact ⟨rfl, rfl⟩))
    (fun os started H enc _ => lifted os started H enc)

/-- The statement. -/
theorem proved : Rows.FnExactValidGraphSaid := over
#print axioms proved
end Go.Proofs.Ythaebckdhcnkfaa.fnExactValidGraph
