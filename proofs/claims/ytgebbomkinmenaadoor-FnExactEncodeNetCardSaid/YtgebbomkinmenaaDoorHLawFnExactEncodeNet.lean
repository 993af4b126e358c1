/- The law FnExactEncodeNet returns true, for every input, where strconv's and math/bits' tables read as they are laid; the card ties that to the program's text. The walk is by a calculus of our own over the model's code. -/
import Derived.Test.YtgebbomkinmenaaDoorRows
import Derived.Test.YtgebbomkinmenaaDoorTie
import Derived.Test.YtgebbomkinmenaaDoorCards
import Derived.WalkKit
import Derived.ProofKit
import Derived.LaidMore
import Derived.OpenShut
import Derived.ShutString
import Derived.ChangeOld
import Derived.Below
import Derived.Carry
import Derived.SizedLaws
import Derived.Stop.Joined
import Derived.SevenTiedAt
import Derived.Lib.LaidTab
import Derived.Lib.LaidU8
import Derived.Test.YtgebbomkinmenaaDoorG1
import Derived.Test.YtgebbomkinmenaaDoorG2
import Derived.Test.YtgebbomkinmenaaDoorG3
import Derived.Test.YtgebbomkinmenaaDoorG4
import Derived.Test.YtgebbomkinmenaaDoorG5
import Derived.Test.YtgebbomkinmenaaDoorG6
import Derived.Test.YtgebbomkinmenaaDoorG7
import Derived.Test.YtgebbomkinmenaaDoorG8
import Derived.Test.YtgebbomkinmenaaDoorG9
import Derived.Test.YtgebbomkinmenaaDoorG10
import Derived.Test.YtgebbomkinmenaaDoorG11
import Derived.Test.YtgebbomkinmenaaDoorG12
import Derived.Test.YtgebbomkinmenaaDoorG13
import Derived.Test.YtgebbomkinmenaaDoorG14
import Derived.Test.YtgebbomkinmenaaDoorG15
import Derived.Test.YtgebbomkinmenaaDoorG16
import Derived.Test.YtgebbomkinmenaaDoorG17
import Derived.Test.YtgebbomkinmenaaDoorG18
import Derived.Test.YtgebbomkinmenaaDoorG19
import Derived.Test.YtgebbomkinmenaaDoorG20
namespace Go.Proofs.YtgebbomkinmenaaDoor.fnExactEncodeNet
open Go.ChangeShapes Go.WideShapes Go.ChangeAt Go.RowKit
open Go.ChangeMaps (open_string shut_string)
open Cal
set_option linter.unusedVariables false
theorem own : ownKnob Tryd.prog.godebug = none := by kernel_rfl
theorem laidOut : laidOutB Tryd.prog = true := by kernel_rfl
def laidL : List (String × DataW Unit) := [("math/bits.deBruijn32tab", Rows.laid_math_bits_deBruijn32tab), ("math/bits.deBruijn64tab", Rows.laid_math_bits_deBruijn64tab), ("internal/strconv.uint64pow10", Rows.laid_internal_strconv_uint64pow10)]
/-- The door's own heap meets the condition. -/
theorem door_met (os : Os) (args : Array Value) : laidMetH Tryd.prog laidL ((World.doorLaid Tryd.prog 400 os).forCall (fun _ _ => 0) ⟨#[], args, []⟩).memory :=
  laidMetH_of_parts3 (fuel := 24) (laidMet_of_run' 24 (by kernel_rfl) (by kernel_rfl)) (by kernel_rfl) (by kernel_rfl)
/-- What the condition gives: the table of the powers of ten. -/
theorem fixed_of_laid {W : World} (h : laidMetH Tryd.prog laidL W) : Fixed [] W := by
  rw [MakeChecks.laidMetH_plain _ _ _ (by kernel_rfl)] at h
  obtain ⟨g, t, cs, fuel, p, h1, h2, h3, h4⟩ := Lib.laidMet.reads h (n := "internal/strconv.uint64pow10") (d := Rows.laid_internal_strconv_uint64pow10) (by simp [laidL])
  obtain rfl := Option.some.inj ((show Tryd.prog.globalNamed "internal/strconv.uint64pow10" = some 0 by kernel_rfl).symm.trans h1)
  obtain rfl := Option.some.inj ((show (Tryd.prog.globals[0]?).map (·.type) = some 179 by kernel_rfl).symm.trans h2)
  have hc := Lib.cells_of_tab (k := .u64) (zs := (List.range 20).map fun i => ((10 ^ i : Nat) : Int)) (e := 140) (n := 20) Tryd.underlying179 Tryd.underlying140 (by kernel_rfl) (by kernel_rfl) h4
  intro q hq
  have hq' : q = (0, ((List.range 20).map fun i => Go.Value.int .u64 ((10 ^ i : Nat) : Int)).toArray) := List.mem_singleton.1 hq
  subst hq'
  refine ⟨?_, by simp⟩
  unfold World.var? at h3
  rw [show Tryd.prog.globalNamed "internal/strconv.uint64pow10" = some 0 by kernel_rfl] at h3
  simp only [Option.bind_some] at h3
  split at h3
  · rename_i c ty z hh
    cases h3
    refine ⟨ty, z, ?_⟩
    rw [hh]
    congr 2
    apply Array.toList_inj.1
    rw [hc]
    simp
  · cases h3
set_option maxRecDepth 100000 in
theorem lifted (os : Os) (started : os.Started) (H : Type) (enc : TypeId × Value → H) :
    ReturnsInHanded {} Tryd.checked os 3 .any (fun w args => (Rows.fnExactEncodeNetSpec.pre enc Tryd.prog Tryd.f3 [] false w args ∧ laidMetH Tryd.prog laidL w) ∧ sizedMet enc Tryd.prog Tryd.f3 (OpenSpec.ofChange Rows.fnExactEncodeNetSpec) false w args)
      (Rows.fnExactEncodeNetSpec.post enc Tryd.prog Tryd.f3 false true false false) := by
  refine returnsInHanded_of_change_and (C := Tryd.checked) (X := fun w _ => laidMetH Tryd.prog laidL w) (fun _ _ _ hh h => h.of_heap hh) own started (by kernel_rfl) Tryd.func3
    (ChangeSpec.witness_shaped (enc := enc) (C := Tryd.checked) (os := os) (X := fun w _ => laidMetH Tryd.prog laidL w) false (World.doorLaid Tryd.prog 400 os) #[.agg #[.slice none 0 0, .slice none 0 0, .slice none 0 0, .slice none 0 0, .int .i64 0]] 8 rfl (World.shaped_of_RefB (by kernel_rfl) (by kernel_rfl)) (by kernel_rfl) (by kernel_rfl) (by kernel_rfl) (door_met os _)) ?_
  intro W base args ds gs before hval0 hW _ _ hL0 _
  have hval : ∀ (j : Nat) t v, Tryd.f3.params[j]? = some t → args[j]? = some v → Value.okWide Tryd.prog W .any base t v := hval0
  have hW' := hW
  obtain ⟨p, q, hA0, hV, rfl, hfz, hnd⟩ := hW
  have hA : DataW.TrodAll enc Tryd.prog W 0 (fun _ => true) true Tryd.f3.params.toList args.toList ds p := hA0
  rw [Tryd.params3] at hA hval
  obtain ⟨v0, vs0, d0, ds0, p0, q0, hargs, rfl, rfl, h0, r0⟩ := trodAll_cons hA
  obtain ⟨rfl, rfl, rfl⟩ := trodAll_nil r0
  obtain rfl : args = #[v0] := by cases args; simp_all
  obtain ⟨rfl, rfl⟩ := trodVars_none hV
  have lt0 : ∀ x ∈ p0, x.block < W.heap.size := by obtain ⟨m, hm⟩ := h0; exact DataW.trod_lt m _ _ _ hm
  obtain ⟨xs0, f0, a0⟩ := arg_agg (n := 8) (shs := [.sl [.int .i64], .sl [.int .i64, .bool, .sl [.int .i64], .sl [.int .i64]], .sl [.int .i64, .bool, .int .i64, .int .i64, .bool, .int .i64, .sl [.int .i64]], .sl [.int .i64, .int .i64, .int .i64], .int .i64]) (by kernel_rfl) (by kernel_rfl) (hval 0 27 v0 rfl rfl) h0
  obtain ⟨g0, rfl, e0⟩ := fits_net f0
  refine (law_calls (us := [v0]) (lawEN g0 e0) ⟨v0, [], [], [], rfl, rfl, a0, rfl, rfl⟩ (fixed_of_laid hL0)).mono fun e W' ⟨he, bel⟩ => ?_
  subst he
  exact ⟨_, rfl, _, _, _, [], _, [], hW', trodAll_mk1 (shut_bool Tryd.underlying4 _), (trodAll_cons_mk (Below.trod laidOut (by kernel_rfl) (of_decide_eq_true (by kernel_rfl)) h0 bel lt0) trodAll_mk0), rfl, bel.frame _, fun h => by cases h⟩
theorem over : Rows.fnExactEncodeNetRow.holds Tryd.pinned (OpenSpec.ofChange Rows.fnExactEncodeNetSpec) :=
  OpenClaim.holds_of_wide 3 Tryd.f3 rfl rfl rfl rfl rfl rfl rfl ⟨rfl, rfl, rfl, rfl, rfl⟩ rfl rfl rfl rfl rfl (by kernel_rfl) Tryd.func3 (by kernel_rfl)
    (of_decide_eq_true (by kernel_rfl)) (by unfold Func.isWrapper; first | (rw [if_pos (by decide +kernel)]; kernel_rfl) | (rw [if_neg (by decide +kernel)]; exact ⟨rfl, rfl⟩))
    (fun os started H enc _ => lifted os started H enc)
/-- The statement: the tied card. -/
theorem proved : Rows.FnExactEncodeNetCardSaid :=
  Claim7.holds_tied_plain_at .later [] [.data, .data, .data] true (true, "e23b361cd685286efe1cf11c77d01f9c7d39135e123608b1b1670af5de2df507") false
    over (fun _ h => by cases h) (by kernel_rfl) (fun _ h => by cases h) fnExactEncodeNet_row_tie rfl ⟨rfl, rfl⟩ (by kernel_rfl) rfl
    (fun f fn hf hfn => by
      obtain rfl : f = 3 := Option.some.inj ((show Tryd.prog.funcNamed "loop.example/s0019/laws.FnExactEncodeNet" = some 3 by kernel_rfl).symm.trans hf) |>.symm
      obtain rfl : fn = Tryd.f3 := (Option.some.inj (Tryd.func3.symm.trans hfn)).symm
      exact ⟨by kernel_rfl, fun j t ht => by
        rw [Tryd.params3] at ht
        have hm : t ∈ [27] := by simpa using Array.mem_of_getElem? ht
        have hall : ([27].all fun u => !Tryd.prog.wantsStandIn u) = true := by kernel_rfl
        exact (show Tryd.prog.wantsStandIn t = false by simpa using List.all_eq_true.1 hall t hm)⟩)
    (by kernel_rfl)
#print axioms proved
end Go.Proofs.YtgebbomkinmenaaDoor.fnExactEncodeNet
