import Derived.Test.YthaebckdhcnkfaaTF
set_option linter.unusedSimpArgs false
set_option linter.unusedVariables false
namespace Cal
open Go Go.Proofs
set_option maxRecDepth 100000
set_option maxHeartbeats 0 in
theorem lawPE_y (g : Gr) (p : List Int) (hg : smallG g) (hp2 : p.length ≤ 1048576) (hs2 : sumG g ≤ 1048576) (hv : VG g ∧ IsPath g p) : CallsF Try.prog 7 [.agg (encG g), .val (ints p)] (.t (.v (.bool true))) [] := by
  refine callsF_of_wp1 (fn := Try.f7) (k := k7) (fun _ => []) mixed (by kernel_rfl) rfl (by kernel_rfl) (by kernel_rfl) (by kernel_rfl) rfl (by simp [Try.f7]) (by simp [Arg.like]) ?_
  generalize hst : St.enter [.agg (encG g), .val (ints p)] = st0
  have t0 : st0.tm 0 = .agg ((encG g) |>.map .t) := by rw [← hst]; rfl
  have t1 : st0.tm 1 = .t (ints p) := by rw [← hst]; rfl
  clear hst
  unfold k7
  simp [encG] at t0
  have hs : ¬ 1048576 < sumG g := by omega
  have hs3 : 0 ≤ 1048576 - sumG g := by omega
  have hs4 := hs2
  unfold sumG at hs4
  have hc := edgesR_yes hv
  have el : (edgesTo g p p.length).length = p.length := edgesTo_length g p p.length
  repeat' (first
    | (refine wp2_seq fun K hK => ?_)
    | (refine wp1_seq fun K hK => ?_)
    | (refine M_cons fun K hK => ?_)
    | (refine hK _ ?_; clear hK K)
    | (clear hK K; refine hK _ ?_; clear hK K)
    | (clear hK K; clear hK K; refine hK _ ?_; clear hK K)
    | (clear hK K; clear hK K; clear hK K; refine hK _ ?_; clear hK K)
    | (refine hX _ ?_; clear hX hY X Y)
    | (refine hY _ ?_; clear hX hY X Y)
    | (refine wp2_block ?_)
    | (refine wp1_block ?_)
    | (refine wp2_region ?_)
    | (refine wp1_region ?_)
    | (refine wp2_cond fun X Y hX hY => ?_)
    | (refine wp1_cond fun X Y hX hY => ?_)
    | (refine condK_of (fun c => ?_) (fun c => ?_) <;> (try simp [-List.length_eq_zero_iff] at c))
    | (refine guard1_or (fun c => ?_) (fun c => ?_) <;> (have cc := c) <;> (try simp [-List.length_eq_zero_iff] at cc) <;> (try simp (disch := omega) [t0, t1, hs, encG, rvG, hc, c]))
    | (refine callT_fl (szG g _ hg ?_ ?_) (by simp [St.args, St.arg, t0, t1, hs, encG, rvG, hc] <;> first | rfl | ((repeat' first | rfl | apply And.intro); done)) (by first | (simp [RV.flat, RV.flats, T.flat]; done) | ((repeat' first | exact flat_intRow _ | exact trivial | constructor | unfold RV.flat | unfold RV.flats); done)) (by simp [mutsOf]) ?_; omega; omega)
    | (refine callT_fl (toG g ?_) (by simp [St.args, St.arg, t0, t1, hs, encG, rvG, hc] <;> first | rfl | ((repeat' first | rfl | apply And.intro); done)) (by first | (simp [RV.flat, RV.flats, T.flat]; done) | ((repeat' first | exact flat_intRow _ | exact trivial | constructor | unfold RV.flat | unfold RV.flats); done)) (by simp [mutsOf]) ?_; omega)
    | (refine callT_fl (toI p ?_) (by simp [St.args, St.arg, t0, t1, hs, encG, rvG, hc] <;> first | rfl | ((repeat' first | rfl | apply And.intro); done)) (by first | (simp [RV.flat, RV.flats, T.flat]; done) | ((repeat' first | exact flat_intRow _ | exact trivial | constructor | unfold RV.flat | unfold RV.flats); done)) (by simp [mutsOf]) ?_; omega)
    | (refine callT_fl (pathEdgesS g p ?_ ?_) (by simp [St.args, St.arg, t0, t1, hs, encG, rvG, hc] <;> first | rfl | ((repeat' first | rfl | apply And.intro); done)) (by first | (simp [RV.flat, RV.flats, T.flat]; done) | ((repeat' first | exact flat_intRow _ | exact trivial | constructor | unfold RV.flat | unfold RV.flats); done)) (by simp [mutsOf]) ?_; omega; omega)
    | (refine callT_fl (pathEdgesI_y hv.1 hv.2 hs2 hp2) (by simp [St.args, St.arg, t0, t1, hs, encG, rvG, hc] <;> first | rfl | ((repeat' first | rfl | apply And.intro); done)) (by first | (simp [RV.flat, RV.flats, T.flat]; done) | ((repeat' first | exact flat_intRow _ | exact trivial | constructor | unfold RV.flat | unfold RV.flats); done)) (by simp [mutsOf]) ?_)
    | (refine callT_fl (eqG g ?_) (by simp [St.args, St.arg, t0, t1, hs, encG, rvG, hc] <;> first | rfl | ((repeat' first | rfl | apply And.intro); done)) (by first | (simp [RV.flat, RV.flats, T.flat]; done) | ((repeat' first | exact flat_intRow _ | exact trivial | constructor | unfold RV.flat | unfold RV.flats); done)) (by simp [mutsOf]) ?_; omega)
    | (refine callT_fl (eqI _ _ ?_ ?_) (by simp [St.args, St.arg, t0, t1, hs, encG, rvG, hc] <;> first | rfl | ((repeat' first | rfl | apply And.intro); done)) (by first | (simp [RV.flat, RV.flats, T.flat]; done) | ((repeat' first | exact flat_intRow _ | exact trivial | constructor | unfold RV.flat | unfold RV.flats); done)) (by simp [mutsOf]) ?_; omega; omega)
    | (refine callT_sh true (sh := [some 7, none]) (markG g.edgeOf g.stateOf g.first g.to g.cost g.start g.weight _ ?_ ?_ ?_) (by simp; rfl) (by simp [St.args, St.arg, t0, t1, hs, encG, rvG, hc] <;> first | rfl | ((repeat' first | rfl | apply And.intro); done)) (fun _ => ⟨(by first | (simp [RV.flat, RV.flats, T.flat]; done) | ((repeat' first | exact flat_intRow _ | exact trivial | constructor | unfold RV.flat | unfold RV.flats); done)), (by (repeat' first | exact flat_intRow _ | exact trivial | constructor | unfold Arg.flats | unfold Arg.flat); done)⟩) (by simp [apartArgs, mutsOf, noRow, valsOf]) (by simp) ?_; omega; omega; omega)
    | (refine callT_mrow (markI _ _ ?_ ?_ ?_) (by simp [t0, t1, hs, encG, rvG, hc]; rfl) (by simp) rfl (by simp [RV.flat, T.flat]) (by (repeat' first | exact flat_intRow _ | exact trivial | constructor | unfold Arg.flats | unfold Arg.flat); done) ?_; omega; omega; omega)
    | (refine callT_fl (heldI p.length _ ?_ ?_ ?_) (by simp [St.args, St.arg, t0, t1, hs, encG, rvG, hc] <;> first | rfl | ((repeat' first | rfl | apply And.intro); done)) (by first | (simp [RV.flat, RV.flats, T.flat]; done) | ((repeat' first | exact flat_intRow _ | exact trivial | constructor | unfold RV.flat | unfold RV.flats); done)) (by simp [mutsOf]) ?_; omega; omega; omega)
    | (simp (disch := omega) [t0, t1, hs, encG, rvG, hc]))
  all_goals try (simp [t0, t1, hs, encG, rvG, hc, Back]; done)
  all_goals omega
end Cal
