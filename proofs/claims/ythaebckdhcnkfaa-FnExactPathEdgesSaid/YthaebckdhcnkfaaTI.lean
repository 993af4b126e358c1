import Derived.Test.YthaebckdhcnkfaaTG
import Derived.Test.YthaebckdhcnkfaaTH
set_option linter.unusedSimpArgs false
set_option linter.unusedVariables false
namespace Cal
open Go Go.Proofs
set_option maxRecDepth 100000
set_option maxHeartbeats 0 in
theorem lawPE_a (g : Gr) (p : List Int) (hp : 1048576 < p.length) : CallsF Try.prog 7 [.agg (encG g), .val (ints p)] (.t (.v (.bool true))) [] := by
  refine callsF_of_wp1 (fn := Try.f7) (k := k7) (fun _ => []) mixed (by kernel_rfl) rfl (by kernel_rfl) (by kernel_rfl) (by kernel_rfl) rfl (by simp [Try.f7]) (by simp [Arg.like]) ?_
  generalize hst : St.enter [.agg (encG g), .val (ints p)] = st0
  have t0 : st0.tm 0 = .agg ((encG g) |>.map .t) := by rw [← hst]; rfl
  have t1 : st0.tm 1 = .t (ints p) := by rw [← hst]; rfl
  clear hst
  unfold k7
  simp [encG] at t0
  repeat' (first
    | (refine wp2_seq fun K hK => ?_)
    | (refine wp1_seq fun K hK => ?_)
    | (refine M_cons fun K hK => ?_)
    | (refine hK _ ?_; clear hK K)
    | (clear hK K; refine hK _ ?_; clear hK K)
    | (clear hK K; clear hK K; refine hK _ ?_; clear hK K)
    | (clear hK K; clear hK K; clear hK K; refine hK _ ?_; clear hK K)
    | (refine hX _ ?_; clear hX hY X Y)
    | (refine hY _ ?_; clear hX hY X Y)
    | (refine wp2_block ?_)
    | (refine wp1_block ?_)
    | (refine wp2_region ?_)
    | (refine wp1_region ?_)
    | (refine wp2_cond fun X Y hX hY => ?_)
    | (refine wp1_cond fun X Y hX hY => ?_)
    | (refine condK_of (fun c => ?_) (fun c => ?_) <;> (try simp [-List.length_eq_zero_iff] at c))
    | (refine guard1_or (fun c => ?_) (fun c => ?_) <;> (have cc := c) <;> (try simp [-List.length_eq_zero_iff] at cc) <;> (try simp (disch := omega) [t0, t1, encG, c]))
    | (simp (disch := omega) [t0, t1, encG]))
  all_goals try (simp [t0, t1, encG, Back]; done)
  omega
set_option maxHeartbeats 0 in
theorem lawPE_b (g : Gr) (p : List Int) (hg : smallG g) (hp : ¬ 1048576 < p.length) (hs : 1048576 < sumG g) : CallsF Try.prog 7 [.agg (encG g), .val (ints p)] (.t (.v (.bool true))) [] := by
  refine callsF_of_wp1 (fn := Try.f7) (k := k7) (fun _ => []) mixed (by kernel_rfl) rfl (by kernel_rfl) (by kernel_rfl) (by kernel_rfl) rfl (by simp [Try.f7]) (by simp [Arg.like]) ?_
  generalize hst : St.enter [.agg (encG g), .val (ints p)] = st0
  have t0 : st0.tm 0 = .agg ((encG g) |>.map .t) := by rw [← hst]; rfl
  have t1 : st0.tm 1 = .t (ints p) := by rw [← hst]; rfl
  clear hst
  unfold k7
  simp [encG] at t0
  repeat' (first
    | (refine wp2_seq fun K hK => ?_)
    | (refine wp1_seq fun K hK => ?_)
    | (refine M_cons fun K hK => ?_)
    | (refine hK _ ?_; clear hK K)
    | (clear hK K; refine hK _ ?_; clear hK K)
    | (clear hK K; clear hK K; refine hK _ ?_; clear hK K)
    | (clear hK K; clear hK K; clear hK K; refine hK _ ?_; clear hK K)
    | (refine hX _ ?_; clear hX hY X Y)
    | (refine hY _ ?_; clear hX hY X Y)
    | (refine wp2_block ?_)
    | (refine wp1_block ?_)
    | (refine wp2_region ?_)
    | (refine wp1_region ?_)
    | (refine wp2_cond fun X Y hX hY => ?_)
    | (refine wp1_cond fun X Y hX hY => ?_)
    | (refine condK_of (fun c => ?_) (fun c => ?_) <;> (try simp [-List.length_eq_zero_iff] at c))
    | (refine guard1_or (fun c => ?_) (fun c => ?_) <;> (have cc := c) <;> (try simp [-List.length_eq_zero_iff] at cc) <;> (try simp (disch := omega) [t0, t1, hs, encG, c]))
    | (refine callT_fl (szG g _ hg ?_ ?_) (by simp [St.args, St.arg, t0, t1, hs, encG] <;> first | rfl | ((repeat' first | rfl | apply And.intro); done)) (by first | (simp [RV.flat, RV.flats, T.flat]; done) | ((repeat' first | exact flat_intRow _ | exact trivial | constructor | unfold RV.flat | unfold RV.flats); done)) (by simp [mutsOf]) ?_; omega; omega)
    | (simp (disch := omega) [t0, t1, hs, encG]))
  all_goals try (simp [t0, t1, hs, encG, Back]; done)
  all_goals omega
theorem lawPE (g : Gr) (p : List Int) (hg : smallG g) (_ : ∀ n ∈ p, (Lit.int .i64 n).wf = true) : CallsF Try.prog 7 [.agg (encG g), .val (ints p)] (.t (.v (.bool true))) [] := by
  by_cases hp : 1048576 < p.length
  · exact lawPE_a g p hp
  · by_cases hs : 1048576 < sumG g
    · exact lawPE_b g p hg hp hs
    · by_cases hv : VG g ∧ IsPath g p
      · exact lawPE_y g p hg (by omega) (by omega) hv
      · exact lawPE_n g p hg (by omega) (by omega) hv
end Cal
