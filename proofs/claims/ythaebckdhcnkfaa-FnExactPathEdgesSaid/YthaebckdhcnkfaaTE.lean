import Derived.Test.YthaebckdhcnkfaaTC
import Derived.Test.YthaebckdhcnkfaaTD
import Derived.Test.YthaebckdhcnkfaaSim3
set_option linter.unusedSimpArgs false
set_option linter.unusedVariables false
namespace Cal
open Go Go.Proofs
set_option maxRecDepth 100000
noncomputable def edgesR (g : Gr) (p : List Int) : List Int := if VG g ∧ IsPath g p then edgesTo g p p.length else []
theorem edgesR_yes {g : Gr} {p : List Int} (h : VG g ∧ IsPath g p) : edgesR g p = edgesTo g p p.length := by unfold edgesR; rw [if_pos h]
theorem edgesR_no {g : Gr} {p : List Int} (h : ¬ (VG g ∧ IsPath g p)) : edgesR g p = [] := by unfold edgesR; rw [if_neg h]
@[simp] theorem intRow_nil : intRow [] = [] := rfl
/-- What has been gathered of a path. -/
def EW (g : Gr) (p : List Int) (k : Nat) (s : St) : Prop := if k = 0 then s.tm 5 = .row (7, 0) 1 0 0 ∧ s.ob (7, 0) = some (.row 1 []) else s.tm 5 = .row (31, 0) 1 0 k ∧ s.ob (31, 0) = some (.row 1 (intRow (edgesTo g p k)))
/-- The code of spec.PathEdges. -/
def k30 : Code1 :=
  (.seq
    (.region [2] false ([]) [
      ⟨some 2, Op.box 27 (Operand.tmp 0), none⟩,
      ⟨some 4, Op.assign (Operand.const (Value.slice none 0 0)), none⟩])
    (.seq
      (.region [7] false ([]) [
        ⟨some 7, Op.buildSlice 22 0 #[], none⟩,
        ⟨some 5, Op.assign (Operand.tmp 7), none⟩])
      (.seq
        (.seq
          (.region [9, 13] false ([]) [
            ⟨some 8, Op.load 27 (Operand.tmp 2), none⟩,
            ⟨some 9, Op.call { callee := Callee.value (Operand.func 12), args := #[Operand.tmp 8], argTypes := #[27] }, none⟩,
            ⟨some 10, Op.move (Operand.tmp 9), none⟩,
            ⟨some 11, Op.load 27 (Operand.tmp 2), some (10, true)⟩,
            ⟨some 12, Op.move (Operand.tmp 1), some (10, true)⟩,
            ⟨some 13, Op.call { callee := Callee.value (Operand.func 51), args := #[Operand.tmp 11, Operand.tmp 12], argTypes := #[27, 22] }, some (10, true)⟩,
            ⟨some 14, Op.pick (Operand.tmp 10) (Operand.tmp 13) (Operand.const (Value.bool false)), none⟩])
          (.cond (Operand.tmp 14)
            (.seq
              (.region [] false ([]) [
                ⟨some 6, Op.assign (Operand.const (Value.int IntKind.i64 0)), none⟩])
              (.block 0
                (.loop
                  (.seq
                    (.seq
                      (.region [] false ([]) [
                        ⟨some 15, Op.move (Operand.tmp 6), none⟩,
                        ⟨some 16, Op.move (Operand.tmp 1), none⟩,
                        ⟨some 17, Op.call { callee := Callee.builtin Builtin.len, args := #[Operand.tmp 16], argTypes := #[22] }, none⟩,
                        ⟨some 18, Op.binOp BinOp.lss 3 (Operand.tmp 15) (Operand.tmp 17) 3, none⟩])
                      (.cond (Operand.tmp 18)
                        .skip
                        (.exit 0)))
                    (.seq
                      (.block 1
                        (.region [30, 31] true ([]) [
                          ⟨some 21, Op.move (Operand.tmp 5), none⟩,
                          ⟨some 22, Op.fieldAddr 27 (Operand.tmp 2) 0, none⟩,
                          ⟨some 23, Op.load 22 (Operand.tmp 22), none⟩,
                          ⟨some 24, Op.move (Operand.tmp 1), none⟩,
                          ⟨some 25, Op.move (Operand.tmp 6), none⟩,
                          ⟨some 26, Op.indexAddr 22 (Operand.tmp 24) (Operand.tmp 25), none⟩,
                          ⟨some 27, Op.load 2 (Operand.tmp 26), none⟩,
                          ⟨some 28, Op.indexAddr 22 (Operand.tmp 23) (Operand.tmp 27), none⟩,
                          ⟨some 29, Op.load 2 (Operand.tmp 28), none⟩,
                          ⟨some 30, Op.buildSlice 22 1 #[(0, Operand.tmp 29)], none⟩,
                          ⟨some 31, Op.call { callee := Callee.builtin Builtin.append, args := #[Operand.tmp 21, Operand.tmp 30], argTypes := #[22, 22] }, none⟩,
                          ⟨some 5, Op.assign (Operand.tmp 31), none⟩]))
                      (.region [] false ([]) [
                        ⟨some 19, Op.move (Operand.tmp 6), none⟩,
                        ⟨some 20, Op.binOp BinOp.add 3 (Operand.tmp 19) (Operand.const (Value.int IntKind.i64 1)) 3, none⟩,
                        ⟨some 6, Op.assign (Operand.tmp 20), none⟩]))))))
            .skip))
        (.seq
          (.region [] false ([]) [
            ⟨some 32, Op.move (Operand.tmp 5), none⟩,
            ⟨some 4, Op.assign (Operand.tmp 32), none⟩])
          .ret))))
set_option maxHeartbeats 0 in
theorem pathEdgesS (g : Gr) (p : List Int) (h : sumG g ≤ 1048576) (hp : p.length ≤ 1048576) : CallsF Try.prog 30 [.agg (encG g), .val (ints p)] (.own 1 (intRow (edgesR g p))) [] := by
  unfold sumG at h
  refine callsF_of_wp2 (fn := Try.f30) (k := k30) (fun _ => []) mixed (by kernel_rfl) rfl (by kernel_rfl) (by kernel_rfl) (by kernel_rfl) rfl (by simp [Try.f30]) (by simp [Arg.like]) ?_
  generalize hst : St.enter [.agg (encG g), .val (ints p)] = st0
  have t0 : st0.tm 0 = .agg ((encG g) |>.map .t) := by rw [← hst]; rfl
  have t1 : st0.tm 1 = .t (ints p) := by rw [← hst]; rfl
  clear hst
  unfold k30
  simp [encG] at t0
  by_cases hg : VG g
  · by_cases hq : IsPath g p
    · have hc := edgesR_yes ⟨hg, hq⟩
      have l1 := hg.l1
      have l3 := hg.l3
      have q1 := hq.pos
      have q2 := hq.le
      repeat' (first
        | (refine wp2_seq fun K hK => ?_)
        | (refine wp1_seq fun K hK => ?_)
        | (refine M_cons fun K hK => ?_)
        | (refine hK _ ?_; clear hK K)
        | (clear hK K; refine hK _ ?_; clear hK K)
        | (clear hK K; clear hK K; refine hK _ ?_; clear hK K)
        | (clear hK K; clear hK K; clear hK K; refine hK _ ?_; clear hK K)
        | (refine hX _ ?_; clear hX hY X Y)
        | (refine hY _ ?_; clear hX hY X Y)
        | (refine wp2_block ?_)
        | (refine wp1_block ?_)
        | (refine wp2_region ?_)
        | (refine wp1_region ?_)
        | (refine wp2_cond fun X Y hX hY => ?_)
        | (refine wp1_cond fun X Y hX hY => ?_)
        | (refine condK_of (fun c => ?_) (fun c => ?_) <;> (try simp [-List.length_eq_zero_iff] at c))
        | (refine guard1_or (fun c => ?_) (fun c => ?_) <;> (have cc := c) <;> (try simp [-List.length_eq_zero_iff] at cc) <;> (try simp (disch := omega) [t0, t1, hg, hq, encG, c]))
        | (refine callT_fl (vgS g ?_ ?_ ?_ ?_ ?_ ?_ ?_) (by simp [St.args, St.arg, t0, t1, hg, hq, encG] <;> first | rfl | (apply And.intro <;> rfl) | (apply And.intro; rfl; apply And.intro <;> rfl)) (by first | (simp [RV.flat, RV.flats, T.flat]; done) | ((repeat' first | exact flat_intRow _ | exact trivial | constructor | unfold RV.flat | unfold RV.flats); done)) (by simp [mutsOf]) ?_; omega; omega; omega; omega; omega; omega; omega)
        | (refine callT_fl (isPath_c g p hg hp) (by simp [St.args, St.arg, t0, t1, hg, hq, encG] <;> first | rfl | (apply And.intro <;> rfl) | (apply And.intro; rfl; apply And.intro <;> rfl)) (by first | (simp [RV.flat, RV.flats, T.flat]; done) | ((repeat' first | exact flat_intRow _ | exact trivial | constructor | unfold RV.flat | unfold RV.flats); done)) (by simp [mutsOf]) ?_)
        | (simp (disch := omega) [t0, t1, hg, hq, encG]))
      all_goals try (simp [t0, t1, hg, hq, encG, Back]; done)
      have hJ : ∀ s, EW g p p.length s → K s := by
        intro s hs
        unfold EW at hs
        rw [if_neg (by omega)] at hs
        obtain ⟨s5, o5⟩ := hs
        repeat' (first
          | (refine wp2_seq fun K hK => ?_)
          | (refine wp1_seq fun K hK => ?_)
          | (refine M_cons fun K hK => ?_)
          | (refine hK _ ?_; clear hK K)
          | (clear hK K; refine hK _ ?_; clear hK K)
          | (clear hK K; clear hK K; refine hK _ ?_; clear hK K)
          | (clear hK K; clear hK K; clear hK K; refine hK _ ?_; clear hK K)
          | (refine hX _ ?_; clear hX hY X Y)
          | (refine hY _ ?_; clear hX hY X Y)
          | (refine wp2_block ?_)
          | (refine wp1_block ?_)
          | (refine wp2_region ?_)
          | (refine wp1_region ?_)
          | (refine wp2_cond fun X Y hX hY => ?_)
          | (refine wp1_cond fun X Y hX hY => ?_)
          | (refine condK_of (fun c => ?_) (fun c => ?_) <;> (try simp [-List.length_eq_zero_iff] at c))
          | (refine guard1_or (fun c => ?_) (fun c => ?_) <;> (have cc := c) <;> (try simp [-List.length_eq_zero_iff] at cc) <;> (try simp (disch := omega) [s5, o5, hc, c]))
          | (simp (disch := omega) [s5, o5, hc]))
        all_goals try (simp [s5, o5, hc, Back]; done)
      clear hK
      refine wp2_loop (fun n s => ∃ k : Nat, GB g s ∧ s.tm 1 = .t (ints p) ∧ s.tm 6 = .t (.v (.int .i64 k)) ∧ EW g p k s ∧ k ≤ p.length ∧ n = p.length - k) p.length ?_ ?_
      · exact ⟨0, by simp [GB, EW, t1]⟩
      · rintro n s ⟨k, ⟨s2, o⟩, s1, s6, hw, hk, rfl⟩ K' hK'
        have d1 : k < p.length → 0 ≤ rd p k ∧ rd p k < g.edgeOf.length := fun hh => hq.inI (by omega) (by omega)
        by_cases hk0 : k = 0
        · subst hk0
          unfold EW at hw
          rw [if_pos rfl] at hw
          obtain ⟨s5, o5⟩ := hw
          simp only [Int.natCast_zero] at *
          repeat' (first
            | (refine wp2_seq fun K hK => ?_)
            | (refine wp1_seq fun K hK => ?_)
            | (refine M_cons fun K hK => ?_)
            | (refine hK _ ?_; clear hK K)
            | (clear hK K; refine hK _ ?_; clear hK K)
            | (clear hK K; clear hK K; refine hK _ ?_; clear hK K)
            | (clear hK K; clear hK K; clear hK K; refine hK _ ?_; clear hK K)
            | (refine hX _ ?_; clear hX hY X Y)
            | (refine hY _ ?_; clear hX hY X Y)
            | (refine wp2_block ?_)
            | (refine wp1_block ?_)
            | (refine wp2_rename (mk := [30, 31]) 31 60031 (by decide) ?_)
            | (refine wp2_region ?_)
            | (refine wp1_region ?_)
            | (refine wp2_cond fun X Y hX hY => ?_)
            | (refine wp1_cond fun X Y hX hY => ?_)
            | (refine condK_of (fun c => ?_) (fun c => ?_) <;> (try simp [-List.length_eq_zero_iff] at c))
            | (refine guard1_or (fun c => ?_) (fun c => ?_) <;> (have cc := c) <;> (try simp [-List.length_eq_zero_iff] at cc) <;> (try simp (disch := omega) [s2, o, s1, s6, s5, o5, c]))
            | (simp (disch := omega) [s2, o, s1, s6, s5, o5]))
          all_goals try (simp [s2, o, s1, s6, s5, o5, Back]; done)
          all_goals first
            | omega
            | (refine hK' (p.length - 1) _ (by omega) ⟨1, ?_⟩
               simp [GB, EW, s2, o, s1, edgesTo]
               exact ⟨rfl, by omega⟩)
            | skip
        · unfold EW at hw
          rw [if_neg hk0] at hw
          obtain ⟨s5, o5⟩ := hw
          have e9 : (edgesTo g p k).length = k := edgesTo_length g p k
          repeat' (first
            | (refine wp2_seq fun K hK => ?_)
            | (refine wp1_seq fun K hK => ?_)
            | (refine M_cons fun K hK => ?_)
            | (refine hK _ ?_; clear hK K)
            | (clear hK K; refine hK _ ?_; clear hK K)
            | (clear hK K; clear hK K; refine hK _ ?_; clear hK K)
            | (clear hK K; clear hK K; clear hK K; refine hK _ ?_; clear hK K)
            | (refine hX _ ?_; clear hX hY X Y)
            | (refine hY _ ?_; clear hX hY X Y)
            | (refine wp2_block ?_)
            | (refine wp1_block ?_)
            | (refine wp2_rename (mk := [30, 31]) 31 60031 (by decide) ?_)
            | (refine wp2_region ?_)
            | (refine wp1_region ?_)
            | (refine wp2_cond fun X Y hX hY => ?_)
            | (refine wp1_cond fun X Y hX hY => ?_)
            | (refine condK_of (fun c => ?_) (fun c => ?_) <;> (try simp [-List.length_eq_zero_iff] at c))
            | (refine guard1_or (fun c => ?_) (fun c => ?_) <;> (have cc := c) <;> (try simp [-List.length_eq_zero_iff] at cc) <;> (try simp (disch := omega) [s2, o, s1, s6, s5, o5, hk0, c]))
            | (simp (disch := omega) [s2, o, s1, s6, s5, o5, hk0]))
          all_goals try (simp [s2, o, s1, s6, s5, o5, hk0, Back]; done)
          · refine hK' (p.length - (k + 1)) _ (by omega) ⟨k + 1, ?_⟩
            simp [GB, EW, s2, o, s1, edgesTo_succ]
            omega
          · have hkl : k = p.length := by omega
            refine hJ _ ?_
            rw [← hkl]
            simp [EW, hk0, s5, o5]
    · have hc := edgesR_no (g := g) (p := p) fun h => hq h.2
      repeat' (first
        | (refine wp2_seq fun K hK => ?_)
        | (refine wp1_seq fun K hK => ?_)
        | (refine M_cons fun K hK => ?_)
        | (refine hK _ ?_; clear hK K)
        | (clear hK K; refine hK _ ?_; clear hK K)
        | (clear hK K; clear hK K; refine hK _ ?_; clear hK K)
        | (clear hK K; clear hK K; clear hK K; refine hK _ ?_; clear hK K)
        | (refine hX _ ?_; clear hX hY X Y)
        | (refine hY _ ?_; clear hX hY X Y)
        | (refine wp2_block ?_)
        | (refine wp1_block ?_)
        | (refine wp2_region ?_)
        | (refine wp1_region ?_)
        | (refine wp2_cond fun X Y hX hY => ?_)
        | (refine wp1_cond fun X Y hX hY => ?_)
        | (refine condK_of (fun c => ?_) (fun c => ?_) <;> (try simp [-List.length_eq_zero_iff] at c))
        | (refine guard1_or (fun c => ?_) (fun c => ?_) <;> (have cc := c) <;> (try simp [-List.length_eq_zero_iff] at cc) <;> (try simp (disch := omega) [t0, t1, hg, hq, encG, hc, c]))
        | (refine callT_fl (vgS g ?_ ?_ ?_ ?_ ?_ ?_ ?_) (by simp [St.args, St.arg, t0, t1, hg, hq, encG, hc] <;> first | rfl | (apply And.intro <;> rfl) | (apply And.intro; rfl; apply And.intro <;> rfl)) (by first | (simp [RV.flat, RV.flats, T.flat]; done) | ((repeat' first | exact flat_intRow _ | exact trivial | constructor | unfold RV.flat | unfold RV.flats); done)) (by simp [mutsOf]) ?_; omega; omega; omega; omega; omega; omega; omega)
        | (refine callT_fl (isPath_c g p hg hp) (by simp [St.args, St.arg, t0, t1, hg, hq, encG, hc] <;> first | rfl | (apply And.intro <;> rfl) | (apply And.intro; rfl; apply And.intro <;> rfl)) (by first | (simp [RV.flat, RV.flats, T.flat]; done) | ((repeat' first | exact flat_intRow _ | exact trivial | constructor | unfold RV.flat | unfold RV.flats); done)) (by simp [mutsOf]) ?_)
        | (simp (disch := omega) [t0, t1, hg, hq, encG, hc]))
      all_goals try (simp [t0, t1, hg, hq, encG, hc, Back]; done)
  · have hc := edgesR_no (g := g) (p := p) fun h => hg h.1
    repeat' (first
      | (refine wp2_seq fun K hK => ?_)
      | (refine wp1_seq fun K hK => ?_)
      | (refine M_cons fun K hK => ?_)
      | (refine hK _ ?_; clear hK K)
      | (clear hK K; refine hK _ ?_; clear hK K)
      | (clear hK K; clear hK K; refine hK _ ?_; clear hK K)
      | (clear hK K; clear hK K; clear hK K; refine hK _ ?_; clear hK K)
      | (refine hX _ ?_; clear hX hY X Y)
      | (refine hY _ ?_; clear hX hY X Y)
      | (refine wp2_block ?_)
      | (refine wp1_block ?_)
      | (refine wp2_region ?_)
      | (refine wp1_region ?_)
      | (refine wp2_cond fun X Y hX hY => ?_)
      | (refine wp1_cond fun X Y hX hY => ?_)
      | (refine condK_of (fun c => ?_) (fun c => ?_) <;> (try simp [-List.length_eq_zero_iff] at c))
      | (refine guard1_or (fun c => ?_) (fun c => ?_) <;> (have cc := c) <;> (try simp [-List.length_eq_zero_iff] at cc) <;> (try simp (disch := omega) [t0, t1, hg, encG, hc, c]))
      | (refine callT_fl (vgS g ?_ ?_ ?_ ?_ ?_ ?_ ?_) (by simp [St.args, St.arg, t0, t1, hg, encG, hc] <;> first | rfl | (apply And.intro <;> rfl) | (apply And.intro; rfl; apply And.intro <;> rfl)) (by first | (simp [RV.flat, RV.flats, T.flat]; done) | ((repeat' first | exact flat_intRow _ | exact trivial | constructor | unfold RV.flat | unfold RV.flats); done)) (by simp [mutsOf]) ?_; omega; omega; omega; omega; omega; omega; omega)
      | (simp (disch := omega) [t0, t1, hg, encG, hc]))
    all_goals try (simp [t0, t1, hg, encG, hc, Back]; done)
/-- The code of impl.PathEdges. -/
def k31 : Code1 :=
  (.seq
    (.region [2] false ([]) [
      ⟨some 2, Op.box 27 (Operand.tmp 0), none⟩,
      ⟨some 4, Op.assign (Operand.const (Value.slice none 0 0)), none⟩])
    (.seq
      (.region [11] false ([]) [
        ⟨some 9, Op.load 27 (Operand.tmp 2), none⟩,
        ⟨some 10, Op.move (Operand.tmp 1), none⟩,
        ⟨some 11, Op.call { callee := Callee.value (Operand.func 53), args := #[Operand.tmp 9, Operand.tmp 10], argTypes := #[27, 22] }, none⟩,
        ⟨some 8, Op.move (Operand.tmp 11), none⟩,
        ⟨some 12, Op.extract (Operand.tmp 8) 0, none⟩,
        ⟨some 13, Op.extract (Operand.tmp 8) 1, none⟩,
        ⟨some 14, Op.extract (Operand.tmp 8) 2, none⟩,
        ⟨some 5, Op.assign (Operand.tmp 12), none⟩,
        ⟨some 6, Op.assign (Operand.tmp 13), none⟩,
        ⟨some 7, Op.assign (Operand.tmp 14), none⟩])
      (.seq
        (.region [] false ([]) [
          ⟨some 15, Op.move (Operand.tmp 5), none⟩,
          ⟨some 4, Op.assign (Operand.tmp 15), none⟩])
        .ret)))
set_option maxHeartbeats 0 in
theorem pathEdgesI_y {g : Gr} {p : List Int} (hg : VG g) (hq : IsPath g p) (h : sumG g ≤ 1048576) (hp : p.length ≤ 1048576) : CallsF Try.prog 31 [.agg (encG g), .val (ints p)] (.own 1 (intRow (edgesTo g p p.length))) [] := by
  refine callsF_of_wp1 (fn := Try.f31) (k := k31) (fun _ => []) mixed (by kernel_rfl) rfl (by kernel_rfl) (by kernel_rfl) (by kernel_rfl) rfl (by simp [Try.f31]) (by simp [Arg.like]) ?_
  generalize hst : St.enter [.agg (encG g), .val (ints p)] = st0
  have t0 : st0.tm 0 = .agg ((encG g) |>.map .t) := by rw [← hst]; rfl
  have t1 : st0.tm 1 = .t (ints p) := by rw [← hst]; rfl
  clear hst
  unfold k31
  simp [encG] at t0
  repeat' (first
    | (refine wp2_seq fun K hK => ?_)
    | (refine wp1_seq fun K hK => ?_)
    | (refine M_cons fun K hK => ?_)
    | (refine hK _ ?_; clear hK K)
    | (clear hK K; refine hK _ ?_; clear hK K)
    | (clear hK K; clear hK K; refine hK _ ?_; clear hK K)
    | (clear hK K; clear hK K; clear hK K; refine hK _ ?_; clear hK K)
    | (refine hX _ ?_; clear hX hY X Y)
    | (refine hY _ ?_; clear hX hY X Y)
    | (refine wp2_block ?_)
    | (refine wp1_block ?_)
    | (refine wp2_region ?_)
    | (refine wp1_region ?_)
    | (refine wp2_cond fun X Y hX hY => ?_)
    | (refine wp1_cond fun X Y hX hY => ?_)
    | (refine condK_of (fun c => ?_) (fun c => ?_) <;> (try simp [-List.length_eq_zero_iff] at c))
    | (refine guard1_or (fun c => ?_) (fun c => ?_) <;> (have cc := c) <;> (try simp [-List.length_eq_zero_iff] at cc) <;> (try simp (disch := omega) [t0, t1, encG, c]))
    | (refine callT_fl (followed_y hg hq h hp) (by simp [St.args, St.arg, t0, t1, encG] <;> first | rfl | (apply And.intro <;> rfl) | (apply And.intro; rfl; apply And.intro <;> rfl)) (by first | (simp [RV.flat, RV.flats, T.flat]; done) | ((repeat' first | exact flat_intRow _ | exact trivial | constructor | unfold RV.flat | unfold RV.flats); done)) (by simp [mutsOf]) ?_)
    | (simp (disch := omega) [t0, t1, encG]))
  all_goals try (simp [t0, t1, encG, Back]; done)
set_option maxHeartbeats 0 in
theorem pathEdgesI_n {g : Gr} {p : List Int} (hq : VG g → ¬ IsPath g p) (h : sumG g ≤ 1048576) (hp : p.length ≤ 1048576) : CallsF Try.prog 31 [.agg (encG g), .val (ints p)] (.t (.v (.slice none 0 0))) [] := by
  refine callsF_of_wp1 (fn := Try.f31) (k := k31) (fun _ => []) mixed (by kernel_rfl) rfl (by kernel_rfl) (by kernel_rfl) (by kernel_rfl) rfl (by simp [Try.f31]) (by simp [Arg.like]) ?_
  generalize hst : St.enter [.agg (encG g), .val (ints p)] = st0
  have t0 : st0.tm 0 = .agg ((encG g) |>.map .t) := by rw [← hst]; rfl
  have t1 : st0.tm 1 = .t (ints p) := by rw [← hst]; rfl
  clear hst
  unfold k31
  simp [encG] at t0
  repeat' (first
    | (refine wp2_seq fun K hK => ?_)
    | (refine wp1_seq fun K hK => ?_)
    | (refine M_cons fun K hK => ?_)
    | (refine hK _ ?_; clear hK K)
    | (clear hK K; refine hK _ ?_; clear hK K)
    | (clear hK K; clear hK K; refine hK _ ?_; clear hK K)
    | (clear hK K; clear hK K; clear hK K; refine hK _ ?_; clear hK K)
    | (refine hX _ ?_; clear hX hY X Y)
    | (refine hY _ ?_; clear hX hY X Y)
    | (refine wp2_block ?_)
    | (refine wp1_block ?_)
    | (refine wp2_region ?_)
    | (refine wp1_region ?_)
    | (refine wp2_cond fun X Y hX hY => ?_)
    | (refine wp1_cond fun X Y hX hY => ?_)
    | (refine condK_of (fun c => ?_) (fun c => ?_) <;> (try simp [-List.length_eq_zero_iff] at c))
    | (refine guard1_or (fun c => ?_) (fun c => ?_) <;> (have cc := c) <;> (try simp [-List.length_eq_zero_iff] at cc) <;> (try simp (disch := omega) [t0, t1, encG, c]))
    | (refine callT_fl (followed_n hq h hp) (by simp [St.args, St.arg, t0, t1, encG] <;> first | rfl | (apply And.intro <;> rfl) | (apply And.intro; rfl; apply And.intro <;> rfl)) (by first | (simp [RV.flat, RV.flats, T.flat]; done) | ((repeat' first | exact flat_intRow _ | exact trivial | constructor | unfold RV.flat | unfold RV.flats); done)) (by simp [mutsOf]) ?_)
    | (simp (disch := omega) [t0, t1, encG]))
  all_goals try (simp [t0, t1, encG, Back]; done)
end Cal
