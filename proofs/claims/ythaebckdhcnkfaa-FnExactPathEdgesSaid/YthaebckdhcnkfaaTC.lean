import Derived.Test.YthaebckdhcnkfaaTB
set_option linter.unusedSimpArgs false
set_option linter.unusedVariables false
namespace Cal
open Go Go.Proofs
set_option maxRecDepth 100000
theorem followed_y {g : Gr} {p : List Int} (hg : VG g) (hq : IsPath g p) (h : sumG g ≤ 1048576) (hp : p.length ≤ 1048576) :
    CallsF Try.prog 53 [.agg (encG g), .val (ints p)] (.tup [.own 1 (intRow (edgesTo g p p.length)), .t (.v (.int .i64 (costTo g p (p.length - 1)))), .t (.v (.bool true))]) [] := by
  rw [← folR_yes hg hq]
  exact followed_c g p h hp
theorem followed_n {g : Gr} {p : List Int} (hq : VG g → ¬ IsPath g p) (h : sumG g ≤ 1048576) (hp : p.length ≤ 1048576) :
    CallsF Try.prog 53 [.agg (encG g), .val (ints p)] (.tup [.t (.v (.slice none 0 0)), .t (.v (.int .i64 0)), .t (.v (.bool false))]) [] := by
  rw [← folR_no hq]
  exact followed_c g p h hp
/-- The code of impl.PathCost. -/
def k23 : Code1 :=
  (.seq
    (.region [2] false ([]) [
      ⟨some 2, Op.box 27 (Operand.tmp 0), none⟩,
      ⟨some 4, Op.assign (Operand.const (Value.int IntKind.i64 0)), none⟩])
    (.seq
      (.region [11] false ([]) [
        ⟨some 9, Op.load 27 (Operand.tmp 2), none⟩,
        ⟨some 10, Op.move (Operand.tmp 1), none⟩,
        ⟨some 11, Op.call { callee := Callee.value (Operand.func 53), args := #[Operand.tmp 9, Operand.tmp 10], argTypes := #[27, 22] }, none⟩,
        ⟨some 8, Op.move (Operand.tmp 11), none⟩,
        ⟨some 12, Op.extract (Operand.tmp 8) 0, none⟩,
        ⟨some 13, Op.extract (Operand.tmp 8) 1, none⟩,
        ⟨some 14, Op.extract (Operand.tmp 8) 2, none⟩,
        ⟨some 5, Op.assign (Operand.tmp 12), none⟩,
        ⟨some 6, Op.assign (Operand.tmp 13), none⟩,
        ⟨some 7, Op.assign (Operand.tmp 14), none⟩])
      (.seq
        (.seq
          (.region [] false ([]) [
            ⟨some 15, Op.move (Operand.tmp 7), none⟩,
            ⟨some 16, Op.unOp UnOp.not 4 (Operand.tmp 15), none⟩])
          (.cond (Operand.tmp 16)
            (.seq
              (.region [] false ([]) [
                ⟨some 4, Op.assign (Operand.const (Value.int IntKind.i64 (-1))), none⟩])
              .ret)
            .skip))
        (.seq
          (.region [] false ([]) [
            ⟨some 17, Op.move (Operand.tmp 6), none⟩,
            ⟨some 4, Op.assign (Operand.tmp 17), none⟩])
          .ret))))
set_option maxHeartbeats 0 in
theorem pathCostI (g : Gr) (p : List Int) (h : sumG g ≤ 1048576) (hp : p.length ≤ 1048576) : CallsF Try.prog 23 [.agg (encG g), .val (ints p)] (.t (.v (.int .i64 (pathCost g p)))) [] := by
  refine callsF_of_wp1 (fn := Try.f23) (k := k23) (fun _ => []) mixed (by kernel_rfl) rfl (by kernel_rfl) (by kernel_rfl) (by kernel_rfl) rfl (by simp [Try.f23]) (by simp [Arg.like]) ?_
  generalize hst : St.enter [.agg (encG g), .val (ints p)] = st0
  have t0 : st0.tm 0 = .agg ((encG g) |>.map .t) := by rw [← hst]; rfl
  have t1 : st0.tm 1 = .t (ints p) := by rw [← hst]; rfl
  clear hst
  unfold k23
  simp [encG] at t0
  by_cases hq : VG g ∧ IsPath g p
  · have hc : pathCost g p = costTo g p (p.length - 1) := by unfold pathCost; rw [if_pos hq]
    repeat' (first
      | (refine wp2_seq fun K hK => ?_)
      | (refine wp1_seq fun K hK => ?_)
      | (refine M_cons fun K hK => ?_)
      | (refine hK _ ?_; clear hK K)
      | (clear hK K; refine hK _ ?_; clear hK K)
      | (clear hK K; clear hK K; refine hK _ ?_; clear hK K)
      | (clear hK K; clear hK K; clear hK K; refine hK _ ?_; clear hK K)
      | (refine hX _ ?_; clear hX hY X Y)
      | (refine hY _ ?_; clear hX hY X Y)
      | (refine wp2_block ?_)
      | (refine wp1_block ?_)
      | (refine wp2_region ?_)
      | (refine wp1_region ?_)
      | (refine wp2_cond fun X Y hX hY => ?_)
      | (refine wp1_cond fun X Y hX hY => ?_)
      | (refine condK_of (fun c => ?_) (fun c => ?_) <;> (try simp [-List.length_eq_zero_iff] at c))
      | (refine guard1_or (fun c => ?_) (fun c => ?_) <;> (have cc := c) <;> (try simp [-List.length_eq_zero_iff] at cc) <;> (try simp (disch := omega) [t0, t1, encG, hc, c]))
      | (refine callT_fl (followed_y hq.1 hq.2 h hp) (by simp [St.args, St.arg, t0, t1, encG, hc] <;> first | rfl | exact ⟨rfl, rfl⟩ | exact ⟨rfl, rfl, rfl⟩) (by first | (simp [RV.flat, RV.flats, T.flat]; done) | (unfold RV.flat; exact flat_intRow _) | (repeat' first | exact flat_intRow _ | exact trivial | constructor | unfold RV.flat | unfold RV.flats)) (by simp [mutsOf]) ?_)
      | (simp (disch := omega) [t0, t1, encG, hc]))
    all_goals try (simp [t0, t1, encG, hc, Back]; done)
  · have hc : pathCost g p = -1 := by unfold pathCost; rw [if_neg hq]
    repeat' (first
      | (refine wp2_seq fun K hK => ?_)
      | (refine wp1_seq fun K hK => ?_)
      | (refine M_cons fun K hK => ?_)
      | (refine hK _ ?_; clear hK K)
      | (clear hK K; refine hK _ ?_; clear hK K)
      | (clear hK K; clear hK K; refine hK _ ?_; clear hK K)
      | (clear hK K; clear hK K; clear hK K; refine hK _ ?_; clear hK K)
      | (refine hX _ ?_; clear hX hY X Y)
      | (refine hY _ ?_; clear hX hY X Y)
      | (refine wp2_block ?_)
      | (refine wp1_block ?_)
      | (refine wp2_region ?_)
      | (refine wp1_region ?_)
      | (refine wp2_cond fun X Y hX hY => ?_)
      | (refine wp1_cond fun X Y hX hY => ?_)
      | (refine condK_of (fun c => ?_) (fun c => ?_) <;> (try simp [-List.length_eq_zero_iff] at c))
      | (refine guard1_or (fun c => ?_) (fun c => ?_) <;> (have cc := c) <;> (try simp [-List.length_eq_zero_iff] at cc) <;> (try simp (disch := omega) [t0, t1, encG, hc, c]))
      | (refine callT_fl (followed_n (fun a b => hq ⟨a, b⟩) h hp) (by simp [St.args, St.arg, t0, t1, encG, hc] <;> first | rfl | exact ⟨rfl, rfl⟩ | exact ⟨rfl, rfl, rfl⟩) (by first | (simp [RV.flat, RV.flats, T.flat]; done) | (unfold RV.flat; exact flat_intRow _) | (repeat' first | exact flat_intRow _ | exact trivial | constructor | unfold RV.flat | unfold RV.flats)) (by simp [mutsOf]) ?_)
      | (simp (disch := omega) [t0, t1, encG, hc]))
    all_goals try (simp [t0, t1, encG, hc, Back]; done)
/-- The code of laws.FnExactPathCost. -/
def k5 : Code1 :=
  (.seq
    (.region [2] false ([]) [
      ⟨some 2, Op.box 24 (Operand.tmp 0), none⟩,
      ⟨some 4, Op.assign (Operand.const (Value.bool false)), none⟩])
    (.seq
      (.seq
        (.region [] false ([]) [
          ⟨some 10, Op.move (Operand.tmp 1), none⟩,
          ⟨some 11, Op.call { callee := Callee.builtin Builtin.len, args := #[Operand.tmp 10], argTypes := #[22] }, none⟩,
          ⟨some 12, Op.binOp BinOp.gtr 3 (Operand.tmp 11) (Operand.const (Value.int IntKind.i64 1048576)) 3, none⟩])
        (.cond (Operand.tmp 12)
          (.seq
            (.region [] false ([]) [
              ⟨some 4, Op.assign (Operand.const (Value.bool true)), none⟩])
            .ret)
          .skip))
      (.seq
        (.region [] false ([]) [
          ⟨some 5, Op.assign (Operand.const (Value.int IntKind.i64 1048576)), none⟩])
        (.seq
          (.region [15] false ([]) [
            ⟨some 13, Op.load 24 (Operand.tmp 2), none⟩,
            ⟨some 14, Op.move (Operand.tmp 5), none⟩,
            ⟨some 15, Op.call { callee := Callee.value (Operand.func 11), args := #[Operand.tmp 13, Operand.tmp 14], argTypes := #[24, 3] }, none⟩,
            ⟨some 5, Op.assign (Operand.tmp 15), none⟩])
          (.seq
            (.seq
              (.region [] false ([]) [
                ⟨some 16, Op.move (Operand.tmp 5), none⟩,
                ⟨some 17, Op.binOp BinOp.lss 3 (Operand.tmp 16) (Operand.const (Value.int IntKind.i64 0)) 3, none⟩])
              (.cond (Operand.tmp 17)
                (.seq
                  (.region [] false ([]) [
                    ⟨some 4, Op.assign (Operand.const (Value.bool true)), none⟩])
                  .ret)
                .skip))
            (.seq
              (.region [19, 21, 22] false ([]) [
                ⟨some 18, Op.load 24 (Operand.tmp 2), none⟩,
                ⟨some 19, Op.call { callee := Callee.value (Operand.func 13), args := #[Operand.tmp 18], argTypes := #[24] }, none⟩,
                ⟨some 20, Op.move (Operand.tmp 1), none⟩,
                ⟨some 21, Op.call { callee := Callee.value (Operand.func 22), args := #[Operand.tmp 20], argTypes := #[22] }, none⟩,
                ⟨some 22, Op.call { callee := Callee.value (Operand.func 21), args := #[Operand.tmp 19, Operand.tmp 21], argTypes := #[27, 22] }, none⟩,
                ⟨some 6, Op.assign (Operand.tmp 22), none⟩])
              (.seq
                (.region [24, 7] false ([]) [
                  ⟨some 23, Op.load 24 (Operand.tmp 2), none⟩,
                  ⟨some 24, Op.call { callee := Callee.value (Operand.func 13), args := #[Operand.tmp 23], argTypes := #[24] }, none⟩,
                  ⟨some 7, Op.alloc 27, none⟩,
                  ⟨none, Op.store 27 (Operand.tmp 7) (Operand.tmp 24), none⟩])
                (.seq
                  (.region [26] false ([]) [
                    ⟨some 25, Op.move (Operand.tmp 1), none⟩,
                    ⟨some 26, Op.call { callee := Callee.value (Operand.func 22), args := #[Operand.tmp 25], argTypes := #[22] }, none⟩,
                    ⟨some 8, Op.assign (Operand.tmp 26), none⟩])
                  (.seq
                    (.region [29] false ([]) [
                      ⟨some 27, Op.load 27 (Operand.tmp 7), none⟩,
                      ⟨some 28, Op.move (Operand.tmp 8), none⟩,
                      ⟨some 29, Op.call { callee := Callee.value (Operand.func 23), args := #[Operand.tmp 27, Operand.tmp 28], argTypes := #[27, 22] }, none⟩,
                      ⟨some 9, Op.assign (Operand.tmp 29), none⟩])
                    (.seq
                      (.seq
                        (.region [] false ([]) [
                          ⟨some 30, Op.move (Operand.tmp 9), none⟩,
                          ⟨some 31, Op.move (Operand.tmp 6), none⟩,
                          ⟨some 32, Op.binOp BinOp.neq 2 (Operand.tmp 30) (Operand.tmp 31) 2, none⟩])
                        (.cond (Operand.tmp 32)
                          (.seq
                            (.region [] false ([]) [
                              ⟨some 4, Op.assign (Operand.const (Value.bool false)), none⟩])
                            .ret)
                          .skip))
                      (.seq
                        (.seq
                          (.region [35, 36] true ([]) [
                            ⟨some 33, Op.load 27 (Operand.tmp 7), none⟩,
                            ⟨some 34, Op.load 24 (Operand.tmp 2), none⟩,
                            ⟨some 35, Op.call { callee := Callee.value (Operand.func 13), args := #[Operand.tmp 34], argTypes := #[24] }, none⟩,
                            ⟨some 36, Op.call { callee := Callee.value (Operand.func 15), args := #[Operand.tmp 33, Operand.tmp 35], argTypes := #[27, 27] }, none⟩,
                            ⟨some 37, Op.unOp UnOp.not 4 (Operand.tmp 36), none⟩])
                          (.cond (Operand.tmp 37)
                            (.seq
                              (.region [] false ([]) [
                                ⟨some 4, Op.assign (Operand.const (Value.bool false)), none⟩])
                              .ret)
                            .skip))
                        (.seq
                          (.seq
                            (.region [40, 41] false ([]) [
                              ⟨some 38, Op.move (Operand.tmp 8), none⟩,
                              ⟨some 39, Op.move (Operand.tmp 1), none⟩,
                              ⟨some 40, Op.call { callee := Callee.value (Operand.func 22), args := #[Operand.tmp 39], argTypes := #[22] }, none⟩,
                              ⟨some 41, Op.call { callee := Callee.value (Operand.func 24), args := #[Operand.tmp 38, Operand.tmp 40], argTypes := #[22, 22] }, none⟩,
                              ⟨some 42, Op.unOp UnOp.not 4 (Operand.tmp 41), none⟩])
                            (.cond (Operand.tmp 42)
                              (.seq
                                (.region [] false ([]) [
                                  ⟨some 4, Op.assign (Operand.const (Value.bool false)), none⟩])
                                .ret)
                              .skip))
                          (.seq
                            (.region [] false ([]) [
                              ⟨some 4, Op.assign (Operand.const (Value.bool true)), none⟩])
                            .ret)))))))))))))
set_option maxHeartbeats 0 in
theorem lawPC (g : Gr) (p : List Int) (hg : smallG g) (_ : ∀ n ∈ p, (Lit.int .i64 n).wf = true) : CallsF Try.prog 5 [.agg (encG g), .val (ints p)] (.t (.v (.bool true))) [] := by
  refine callsF_of_wp1 (fn := Try.f5) (k := k5) (fun _ => []) mixed (by kernel_rfl) rfl (by kernel_rfl) (by kernel_rfl) (by kernel_rfl) rfl (by simp [Try.f5]) (by simp [Arg.like]) ?_
  generalize hst : St.enter [.agg (encG g), .val (ints p)] = st0
  have t0 : st0.tm 0 = .agg ((encG g) |>.map .t) := by rw [← hst]; rfl
  have t1 : st0.tm 1 = .t (ints p) := by rw [← hst]; rfl
  clear hst
  unfold k5
  simp [encG] at t0
  by_cases hp : 1048576 < p.length
  · repeat' (first
      | (refine wp2_seq fun K hK => ?_)
      | (refine wp1_seq fun K hK => ?_)
      | (refine M_cons fun K hK => ?_)
      | (refine hK _ ?_; clear hK K)
      | (clear hK K; refine hK _ ?_; clear hK K)
      | (clear hK K; clear hK K; refine hK _ ?_; clear hK K)
      | (clear hK K; clear hK K; clear hK K; refine hK _ ?_; clear hK K)
      | (refine hX _ ?_; clear hX hY X Y)
      | (refine hY _ ?_; clear hX hY X Y)
      | (refine wp2_block ?_)
      | (refine wp1_block ?_)
      | (refine wp2_region ?_)
      | (refine wp1_region ?_)
      | (refine wp2_cond fun X Y hX hY => ?_)
      | (refine wp1_cond fun X Y hX hY => ?_)
      | (refine condK_of (fun c => ?_) (fun c => ?_) <;> (try simp [-List.length_eq_zero_iff] at c))
      | (refine guard1_or (fun c => ?_) (fun c => ?_) <;> (have cc := c) <;> (try simp [-List.length_eq_zero_iff] at cc) <;> (try simp (disch := omega) [t0, t1, encG, c]))
      | (simp (disch := omega) [t0, t1, encG]))
    all_goals try (simp [t0, t1, encG, Back]; done)
    omega
  · by_cases hs : 1048576 < sumG g
    · repeat' (first
        | (refine wp2_seq fun K hK => ?_)
        | (refine wp1_seq fun K hK => ?_)
        | (refine M_cons fun K hK => ?_)
        | (refine hK _ ?_; clear hK K)
        | (clear hK K; refine hK _ ?_; clear hK K)
        | (clear hK K; clear hK K; refine hK _ ?_; clear hK K)
        | (clear hK K; clear hK K; clear hK K; refine hK _ ?_; clear hK K)
        | (refine hX _ ?_; clear hX hY X Y)
        | (refine hY _ ?_; clear hX hY X Y)
        | (refine wp2_block ?_)
        | (refine wp1_block ?_)
        | (refine wp2_region ?_)
        | (refine wp1_region ?_)
        | (refine wp2_cond fun X Y hX hY => ?_)
        | (refine wp1_cond fun X Y hX hY => ?_)
        | (refine condK_of (fun c => ?_) (fun c => ?_) <;> (try simp [-List.length_eq_zero_iff] at c))
        | (refine guard1_or (fun c => ?_) (fun c => ?_) <;> (have cc := c) <;> (try simp [-List.length_eq_zero_iff] at cc) <;> (try simp (disch := omega) [t0, t1, hs, encG, c]))
        | (refine callT_fl (szG g _ hg ?_ ?_) (by simp [St.args, St.arg, t0, t1, hs, encG] <;> first | rfl | exact ⟨rfl, rfl⟩ | exact ⟨rfl, rfl, rfl⟩) (by first | (simp [RV.flat, RV.flats, T.flat]; done) | (unfold RV.flat; exact flat_intRow _) | (repeat' first | exact flat_intRow _ | exact trivial | constructor | unfold RV.flat | unfold RV.flats)) (by simp [mutsOf]) ?_; omega; omega)
        | (simp (disch := omega) [t0, t1, hs, encG]))
      all_goals try (simp [t0, t1, hs, encG, Back]; done)
      all_goals omega
    · have hp2 : p.length ≤ 1048576 := by omega
      have hs2 : sumG g ≤ 1048576 := by omega
      have hs3 : 0 ≤ 1048576 - sumG g := by omega
      repeat' (first
        | (refine wp2_seq fun K hK => ?_)
        | (refine wp1_seq fun K hK => ?_)
        | (refine M_cons fun K hK => ?_)
        | (refine hK _ ?_; clear hK K)
        | (clear hK K; refine hK _ ?_; clear hK K)
        | (clear hK K; clear hK K; refine hK _ ?_; clear hK K)
        | (clear hK K; clear hK K; clear hK K; refine hK _ ?_; clear hK K)
        | (refine hX _ ?_; clear hX hY X Y)
        | (refine hY _ ?_; clear hX hY X Y)
        | (refine wp2_block ?_)
        | (refine wp1_block ?_)
        | (refine wp2_region ?_)
        | (refine wp1_region ?_)
        | (refine wp2_cond fun X Y hX hY => ?_)
        | (refine wp1_cond fun X Y hX hY => ?_)
        | (refine condK_of (fun c => ?_) (fun c => ?_) <;> (try simp [-List.length_eq_zero_iff] at c))
        | (refine guard1_or (fun c => ?_) (fun c => ?_) <;> (have cc := c) <;> (try simp [-List.length_eq_zero_iff] at cc) <;> (try simp (disch := omega) [t0, t1, hs, encG, rvG, c]))
        | (refine callT_fl (szG g _ hg ?_ ?_) (by simp [St.args, St.arg, t0, t1, hs, encG, rvG] <;> first | rfl | exact ⟨rfl, rfl⟩ | exact ⟨rfl, rfl, rfl⟩) (by first | (simp [RV.flat, RV.flats, T.flat]; done) | (unfold RV.flat; exact flat_intRow _) | (repeat' first | exact flat_intRow _ | exact trivial | constructor | unfold RV.flat | unfold RV.flats)) (by simp [mutsOf]) ?_; omega; omega)
        | (refine callT_fl (toG g ?_) (by simp [St.args, St.arg, t0, t1, hs, encG, rvG] <;> first | rfl | exact ⟨rfl, rfl⟩ | exact ⟨rfl, rfl, rfl⟩) (by first | (simp [RV.flat, RV.flats, T.flat]; done) | (unfold RV.flat; exact flat_intRow _) | (repeat' first | exact flat_intRow _ | exact trivial | constructor | unfold RV.flat | unfold RV.flats)) (by simp [mutsOf]) ?_; omega)
        | (refine callT_fl (toI p ?_) (by simp [St.args, St.arg, t0, t1, hs, encG, rvG] <;> first | rfl | exact ⟨rfl, rfl⟩ | exact ⟨rfl, rfl, rfl⟩) (by first | (simp [RV.flat, RV.flats, T.flat]; done) | (unfold RV.flat; exact flat_intRow _) | (repeat' first | exact flat_intRow _ | exact trivial | constructor | unfold RV.flat | unfold RV.flats)) (by simp [mutsOf]) ?_; omega)
        | (refine callT_fl (pathCostS g p ?_ ?_) (by simp [St.args, St.arg, t0, t1, hs, encG, rvG] <;> first | rfl | exact ⟨rfl, rfl⟩ | exact ⟨rfl, rfl, rfl⟩) (by first | (simp [RV.flat, RV.flats, T.flat]; done) | (unfold RV.flat; exact flat_intRow _) | (repeat' first | exact flat_intRow _ | exact trivial | constructor | unfold RV.flat | unfold RV.flats)) (by simp [mutsOf]) ?_; omega; omega)
        | (refine callT_fl (pathCostI g p ?_ ?_) (by simp [St.args, St.arg, t0, t1, hs, encG, rvG] <;> first | rfl | exact ⟨rfl, rfl⟩ | exact ⟨rfl, rfl, rfl⟩) (by first | (simp [RV.flat, RV.flats, T.flat]; done) | (unfold RV.flat; exact flat_intRow _) | (repeat' first | exact flat_intRow _ | exact trivial | constructor | unfold RV.flat | unfold RV.flats)) (by simp [mutsOf]) ?_; omega; omega)
        | (refine callT_fl (eqG g ?_) (by simp [St.args, St.arg, t0, t1, hs, encG, rvG] <;> first | rfl | exact ⟨rfl, rfl⟩ | exact ⟨rfl, rfl, rfl⟩) (by first | (simp [RV.flat, RV.flats, T.flat]; done) | (unfold RV.flat; exact flat_intRow _) | (repeat' first | exact flat_intRow _ | exact trivial | constructor | unfold RV.flat | unfold RV.flats)) (by simp [mutsOf]) ?_; omega)
        | (refine callT_fl (eqI p p ?_ ?_) (by simp [St.args, St.arg, t0, t1, hs, encG, rvG] <;> first | rfl | exact ⟨rfl, rfl⟩ | exact ⟨rfl, rfl, rfl⟩) (by first | (simp [RV.flat, RV.flats, T.flat]; done) | (unfold RV.flat; exact flat_intRow _) | (repeat' first | exact flat_intRow _ | exact trivial | constructor | unfold RV.flat | unfold RV.flats)) (by simp [mutsOf]) ?_; omega; omega)
        | (simp (disch := omega) [t0, t1, hs, encG, rvG]))
      all_goals try (simp [t0, t1, hs, encG, rvG, Back]; done)
end Cal
