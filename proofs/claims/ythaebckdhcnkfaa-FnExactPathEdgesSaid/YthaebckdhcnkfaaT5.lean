import Derived.Test.YthaebckdhcnkfaaT4
set_option linter.unusedSimpArgs false
set_option linter.unusedVariables false
namespace Cal
open Go Go.Proofs
set_option maxRecDepth 100000
/-- What is left behind a list. -/
def szl (left : Int) (l : List Int) : Int := if left - l.length < 0 then -1 else left - l.length
/-- All lists of a graph are small enough. -/
def smallG (g : Gr) : Prop := g.edgeOf.length ≤ 9223372036854775807 ∧ g.stateOf.length ≤ 9223372036854775807 ∧ g.first.length ≤ 9223372036854775807 ∧ g.to.length ≤ 9223372036854775807 ∧ g.cost.length ≤ 9223372036854775807 ∧ g.start.length ≤ 9223372036854775807 ∧ g.weight.length ≤ 9223372036854775807
def sumG (g : Gr) : Int := g.edgeOf.length + g.stateOf.length + g.first.length + g.to.length + g.cost.length + g.start.length + g.weight.length
/-- The code of laws.szGraph. -/
def k11 : Code1 :=
  (.seq
    (.region [2] false ([]) [
      ⟨some 2, Op.box 24 (Operand.tmp 0), none⟩,
      ⟨some 4, Op.assign (Operand.const (Value.int IntKind.i64 0)), none⟩])
    (.seq
      (.region [8] false ([]) [
        ⟨some 5, Op.fieldAddr 24 (Operand.tmp 2) 0, none⟩,
        ⟨some 6, Op.load 22 (Operand.tmp 5), none⟩,
        ⟨some 7, Op.move (Operand.tmp 1), none⟩,
        ⟨some 8, Op.call { callee := Callee.value (Operand.func 41), args := #[Operand.tmp 6, Operand.tmp 7], argTypes := #[22, 3] }, none⟩,
        ⟨some 1, Op.assign (Operand.tmp 8), none⟩])
      (.seq
        (.seq
          (.region [] false ([]) [
            ⟨some 9, Op.move (Operand.tmp 1), none⟩,
            ⟨some 10, Op.binOp BinOp.lss 3 (Operand.tmp 9) (Operand.const (Value.int IntKind.i64 0)) 3, none⟩])
          (.cond (Operand.tmp 10)
            (.seq
              (.region [] false ([]) [
                ⟨some 4, Op.assign (Operand.const (Value.int IntKind.i64 (-1))), none⟩])
              .ret)
            .skip))
        (.seq
          (.region [14] false ([]) [
            ⟨some 11, Op.fieldAddr 24 (Operand.tmp 2) 1, none⟩,
            ⟨some 12, Op.load 22 (Operand.tmp 11), none⟩,
            ⟨some 13, Op.move (Operand.tmp 1), none⟩,
            ⟨some 14, Op.call { callee := Callee.value (Operand.func 41), args := #[Operand.tmp 12, Operand.tmp 13], argTypes := #[22, 3] }, none⟩,
            ⟨some 1, Op.assign (Operand.tmp 14), none⟩])
          (.seq
            (.seq
              (.region [] false ([]) [
                ⟨some 15, Op.move (Operand.tmp 1), none⟩,
                ⟨some 16, Op.binOp BinOp.lss 3 (Operand.tmp 15) (Operand.const (Value.int IntKind.i64 0)) 3, none⟩])
              (.cond (Operand.tmp 16)
                (.seq
                  (.region [] false ([]) [
                    ⟨some 4, Op.assign (Operand.const (Value.int IntKind.i64 (-1))), none⟩])
                  .ret)
                .skip))
            (.seq
              (.region [20] false ([]) [
                ⟨some 17, Op.fieldAddr 24 (Operand.tmp 2) 2, none⟩,
                ⟨some 18, Op.load 22 (Operand.tmp 17), none⟩,
                ⟨some 19, Op.move (Operand.tmp 1), none⟩,
                ⟨some 20, Op.call { callee := Callee.value (Operand.func 41), args := #[Operand.tmp 18, Operand.tmp 19], argTypes := #[22, 3] }, none⟩,
                ⟨some 1, Op.assign (Operand.tmp 20), none⟩])
              (.seq
                (.seq
                  (.region [] false ([]) [
                    ⟨some 21, Op.move (Operand.tmp 1), none⟩,
                    ⟨some 22, Op.binOp BinOp.lss 3 (Operand.tmp 21) (Operand.const (Value.int IntKind.i64 0)) 3, none⟩])
                  (.cond (Operand.tmp 22)
                    (.seq
                      (.region [] false ([]) [
                        ⟨some 4, Op.assign (Operand.const (Value.int IntKind.i64 (-1))), none⟩])
                      .ret)
                    .skip))
                (.seq
                  (.region [26] false ([]) [
                    ⟨some 23, Op.fieldAddr 24 (Operand.tmp 2) 3, none⟩,
                    ⟨some 24, Op.load 22 (Operand.tmp 23), none⟩,
                    ⟨some 25, Op.move (Operand.tmp 1), none⟩,
                    ⟨some 26, Op.call { callee := Callee.value (Operand.func 41), args := #[Operand.tmp 24, Operand.tmp 25], argTypes := #[22, 3] }, none⟩,
                    ⟨some 1, Op.assign (Operand.tmp 26), none⟩])
                  (.seq
                    (.seq
                      (.region [] false ([]) [
                        ⟨some 27, Op.move (Operand.tmp 1), none⟩,
                        ⟨some 28, Op.binOp BinOp.lss 3 (Operand.tmp 27) (Operand.const (Value.int IntKind.i64 0)) 3, none⟩])
                      (.cond (Operand.tmp 28)
                        (.seq
                          (.region [] false ([]) [
                            ⟨some 4, Op.assign (Operand.const (Value.int IntKind.i64 (-1))), none⟩])
                          .ret)
                        .skip))
                    (.seq
                      (.region [32] false ([]) [
                        ⟨some 29, Op.fieldAddr 24 (Operand.tmp 2) 4, none⟩,
                        ⟨some 30, Op.load 22 (Operand.tmp 29), none⟩,
                        ⟨some 31, Op.move (Operand.tmp 1), none⟩,
                        ⟨some 32, Op.call { callee := Callee.value (Operand.func 41), args := #[Operand.tmp 30, Operand.tmp 31], argTypes := #[22, 3] }, none⟩,
                        ⟨some 1, Op.assign (Operand.tmp 32), none⟩])
                      (.seq
                        (.seq
                          (.region [] false ([]) [
                            ⟨some 33, Op.move (Operand.tmp 1), none⟩,
                            ⟨some 34, Op.binOp BinOp.lss 3 (Operand.tmp 33) (Operand.const (Value.int IntKind.i64 0)) 3, none⟩])
                          (.cond (Operand.tmp 34)
                            (.seq
                              (.region [] false ([]) [
                                ⟨some 4, Op.assign (Operand.const (Value.int IntKind.i64 (-1))), none⟩])
                              .ret)
                            .skip))
                        (.seq
                          (.region [38] false ([]) [
                            ⟨some 35, Op.fieldAddr 24 (Operand.tmp 2) 5, none⟩,
                            ⟨some 36, Op.load 22 (Operand.tmp 35), none⟩,
                            ⟨some 37, Op.move (Operand.tmp 1), none⟩,
                            ⟨some 38, Op.call { callee := Callee.value (Operand.func 41), args := #[Operand.tmp 36, Operand.tmp 37], argTypes := #[22, 3] }, none⟩,
                            ⟨some 1, Op.assign (Operand.tmp 38), none⟩])
                          (.seq
                            (.seq
                              (.region [] false ([]) [
                                ⟨some 39, Op.move (Operand.tmp 1), none⟩,
                                ⟨some 40, Op.binOp BinOp.lss 3 (Operand.tmp 39) (Operand.const (Value.int IntKind.i64 0)) 3, none⟩])
                              (.cond (Operand.tmp 40)
                                (.seq
                                  (.region [] false ([]) [
                                    ⟨some 4, Op.assign (Operand.const (Value.int IntKind.i64 (-1))), none⟩])
                                  .ret)
                                .skip))
                            (.seq
                              (.region [44] false ([]) [
                                ⟨some 41, Op.fieldAddr 24 (Operand.tmp 2) 6, none⟩,
                                ⟨some 42, Op.load 22 (Operand.tmp 41), none⟩,
                                ⟨some 43, Op.move (Operand.tmp 1), none⟩,
                                ⟨some 44, Op.call { callee := Callee.value (Operand.func 41), args := #[Operand.tmp 42, Operand.tmp 43], argTypes := #[22, 3] }, none⟩,
                                ⟨some 1, Op.assign (Operand.tmp 44), none⟩])
                              (.seq
                                (.seq
                                  (.region [] false ([]) [
                                    ⟨some 45, Op.move (Operand.tmp 1), none⟩,
                                    ⟨some 46, Op.binOp BinOp.lss 3 (Operand.tmp 45) (Operand.const (Value.int IntKind.i64 0)) 3, none⟩])
                                  (.cond (Operand.tmp 46)
                                    (.seq
                                      (.region [] false ([]) [
                                        ⟨some 4, Op.assign (Operand.const (Value.int IntKind.i64 (-1))), none⟩])
                                      .ret)
                                    .skip))
                                (.seq
                                  (.region [] false ([]) [
                                    ⟨some 47, Op.move (Operand.tmp 1), none⟩,
                                    ⟨some 4, Op.assign (Operand.tmp 47), none⟩])
                                  .ret))))))))))))))))
set_option maxHeartbeats 0 in
theorem szG (g : Gr) (left : Int) (hg : smallG g) (h1 : 0 ≤ left) (h2 : left < 1152921504606846976) :
    CallsF Try.prog 11 [.agg (encG g), .val (.v (.int .i64 left))] (.t (.v (.int .i64 (if left < sumG g then -1 else left - sumG g)))) [] := by
  obtain ⟨g1, g2, g3, g4, g5, g6, g7⟩ := hg
  refine callsF_of_wp1 (fn := Try.f11) (k := k11) (fun _ => []) mixed (by kernel_rfl) rfl (by kernel_rfl) (by kernel_rfl) (by kernel_rfl) rfl (by simp [Try.f11]) (by simp [Arg.like]) ?_
  generalize hst : St.enter [.agg (encG g), .val (.v (.int .i64 left))] = st0
  have t0 : st0.tm 0 = .agg ((encG g) |>.map .t) := by rw [← hst]; rfl
  have t1 : st0.tm 1 = .t (.v (.int .i64 left)) := by rw [← hst]; rfl
  clear hst
  unfold k11
  simp [encG] at t0
  have hd : ((0 : Int) ≤ left ∧ left < (0 : Int) + g.edgeOf.length) ∨ ((0 : Int) + g.edgeOf.length ≤ left ∧ left < (0 : Int) + g.edgeOf.length + g.stateOf.length) ∨ ((0 : Int) + g.edgeOf.length + g.stateOf.length ≤ left ∧ left < (0 : Int) + g.edgeOf.length + g.stateOf.length + g.first.length) ∨ ((0 : Int) + g.edgeOf.length + g.stateOf.length + g.first.length ≤ left ∧ left < (0 : Int) + g.edgeOf.length + g.stateOf.length + g.first.length + g.to.length) ∨ ((0 : Int) + g.edgeOf.length + g.stateOf.length + g.first.length + g.to.length ≤ left ∧ left < (0 : Int) + g.edgeOf.length + g.stateOf.length + g.first.length + g.to.length + g.cost.length) ∨ ((0 : Int) + g.edgeOf.length + g.stateOf.length + g.first.length + g.to.length + g.cost.length ≤ left ∧ left < (0 : Int) + g.edgeOf.length + g.stateOf.length + g.first.length + g.to.length + g.cost.length + g.start.length) ∨ ((0 : Int) + g.edgeOf.length + g.stateOf.length + g.first.length + g.to.length + g.cost.length + g.start.length ≤ left ∧ left < (0 : Int) + g.edgeOf.length + g.stateOf.length + g.first.length + g.to.length + g.cost.length + g.start.length + g.weight.length) ∨ ((0 : Int) + g.edgeOf.length + g.stateOf.length + g.first.length + g.to.length + g.cost.length + g.start.length + g.weight.length ≤ left) := by omega
  rcases hd with e | e | e | e | e | e | e | e
  all_goals
    repeat' (first
      | (refine wp1_seq fun K hK => ?_)
      | (refine M_cons fun K hK => ?_)
      | (refine hK _ ?_; clear hK K)
      | (refine hX _ ?_; clear hX hY X Y)
      | (refine hY _ ?_; clear hX hY X Y)
      | (refine wp1_block ?_)
      | (refine wp1_region ?_)
      | (refine wp1_cond fun X Y hX hY => ?_)
      | (refine condK_of (fun c => ?_) (fun c => ?_) <;> (try simp at c))
      | (refine guard1_or (fun c => ?_) (fun c => ?_) <;> (have cc := c) <;> (try simp at cc) <;> (try simp (disch := omega) [t0, t1, c]))
      | (refine callT_fl (szI_ok _ _ ?_ ?_ ?_) (by simp [St.args, St.arg, t0, t1] <;> first | rfl | exact ⟨rfl, rfl⟩ | exact ⟨rfl, rfl, rfl⟩) (by first | (simp [RV.flat, RV.flats, T.flat]; done) | (unfold RV.flat; exact flat_intRow _) | (repeat' first | exact flat_intRow _ | exact trivial | constructor | unfold RV.flat | unfold RV.flats)) (by simp [mutsOf]) ?_; omega; omega; omega)
      | (refine callT_fl (szI_no _ _ ?_ ?_ ?_) (by simp [St.args, St.arg, t0, t1] <;> first | rfl | exact ⟨rfl, rfl⟩ | exact ⟨rfl, rfl, rfl⟩) (by first | (simp [RV.flat, RV.flats, T.flat]; done) | (unfold RV.flat; exact flat_intRow _) | (repeat' first | exact flat_intRow _ | exact trivial | constructor | unfold RV.flat | unfold RV.flats)) (by simp [mutsOf]) ?_; omega; omega; omega)
      | (simp (disch := omega) [t0, t1]))
    all_goals try (simp [t0, t1, Back]; done)
  all_goals first
    | (have hs : left < sumG g := by (unfold sumG; omega)
       simp [Back, hs]; done)
    | (have hs : ¬ left < sumG g := by (unfold sumG; omega)
       simp [Back, hs]
       unfold sumG
       omega)
def rvG (g : Gr) : List RV := [.own 1 (intRow g.edgeOf), .own 1 (intRow g.stateOf), .own 1 (intRow g.first), .own 1 (intRow g.to), .own 1 (intRow g.cost), .own 1 (intRow g.start), .own 1 (intRow g.weight)]
/-- The code of laws.toGraph. -/
def k13 : Code1 :=
  (.seq
    (.region [1, 2] false ([]) [
      ⟨some 1, Op.box 24 (Operand.tmp 0), none⟩,
      ⟨some 2, Op.alloc 27, none⟩])
    (.seq
      (.region [3] false ([]) [
        ⟨some 3, Op.alloc 27, none⟩])
      (.seq
        (.region [6] false ([]) [
          ⟨some 4, Op.fieldAddr 24 (Operand.tmp 1) 0, none⟩,
          ⟨some 5, Op.load 22 (Operand.tmp 4), none⟩,
          ⟨some 6, Op.call { callee := Callee.value (Operand.func 22), args := #[Operand.tmp 5], argTypes := #[22] }, none⟩,
          ⟨some 7, Op.fieldAddr 27 (Operand.tmp 3) 0, none⟩,
          ⟨none, Op.store 22 (Operand.tmp 7) (Operand.tmp 6), none⟩])
        (.seq
          (.region [10] false ([]) [
            ⟨some 8, Op.fieldAddr 24 (Operand.tmp 1) 1, none⟩,
            ⟨some 9, Op.load 22 (Operand.tmp 8), none⟩,
            ⟨some 10, Op.call { callee := Callee.value (Operand.func 22), args := #[Operand.tmp 9], argTypes := #[22] }, none⟩,
            ⟨some 11, Op.fieldAddr 27 (Operand.tmp 3) 1, none⟩,
            ⟨none, Op.store 22 (Operand.tmp 11) (Operand.tmp 10), none⟩])
          (.seq
            (.region [14] false ([]) [
              ⟨some 12, Op.fieldAddr 24 (Operand.tmp 1) 2, none⟩,
              ⟨some 13, Op.load 22 (Operand.tmp 12), none⟩,
              ⟨some 14, Op.call { callee := Callee.value (Operand.func 22), args := #[Operand.tmp 13], argTypes := #[22] }, none⟩,
              ⟨some 15, Op.fieldAddr 27 (Operand.tmp 3) 2, none⟩,
              ⟨none, Op.store 22 (Operand.tmp 15) (Operand.tmp 14), none⟩])
            (.seq
              (.region [18] false ([]) [
                ⟨some 16, Op.fieldAddr 24 (Operand.tmp 1) 3, none⟩,
                ⟨some 17, Op.load 22 (Operand.tmp 16), none⟩,
                ⟨some 18, Op.call { callee := Callee.value (Operand.func 22), args := #[Operand.tmp 17], argTypes := #[22] }, none⟩,
                ⟨some 19, Op.fieldAddr 27 (Operand.tmp 3) 3, none⟩,
                ⟨none, Op.store 22 (Operand.tmp 19) (Operand.tmp 18), none⟩])
              (.seq
                (.region [22] false ([]) [
                  ⟨some 20, Op.fieldAddr 24 (Operand.tmp 1) 4, none⟩,
                  ⟨some 21, Op.load 22 (Operand.tmp 20), none⟩,
                  ⟨some 22, Op.call { callee := Callee.value (Operand.func 22), args := #[Operand.tmp 21], argTypes := #[22] }, none⟩,
                  ⟨some 23, Op.fieldAddr 27 (Operand.tmp 3) 4, none⟩,
                  ⟨none, Op.store 22 (Operand.tmp 23) (Operand.tmp 22), none⟩])
                (.seq
                  (.region [26] false ([]) [
                    ⟨some 24, Op.fieldAddr 24 (Operand.tmp 1) 5, none⟩,
                    ⟨some 25, Op.load 22 (Operand.tmp 24), none⟩,
                    ⟨some 26, Op.call { callee := Callee.value (Operand.func 22), args := #[Operand.tmp 25], argTypes := #[22] }, none⟩,
                    ⟨some 27, Op.fieldAddr 27 (Operand.tmp 3) 5, none⟩,
                    ⟨none, Op.store 22 (Operand.tmp 27) (Operand.tmp 26), none⟩])
                  (.seq
                    (.region [30] false ([]) [
                      ⟨some 28, Op.fieldAddr 24 (Operand.tmp 1) 6, none⟩,
                      ⟨some 29, Op.load 22 (Operand.tmp 28), none⟩,
                      ⟨some 30, Op.call { callee := Callee.value (Operand.func 22), args := #[Operand.tmp 29], argTypes := #[22] }, none⟩,
                      ⟨some 31, Op.fieldAddr 27 (Operand.tmp 3) 6, none⟩,
                      ⟨none, Op.store 22 (Operand.tmp 31) (Operand.tmp 30), none⟩])
                    (.seq
                      (.region [] false ([]) [
                        ⟨some 32, Op.load 27 (Operand.tmp 3), none⟩,
                        ⟨none, Op.store 27 (Operand.tmp 2) (Operand.tmp 32), none⟩])
                      .ret))))))))))
set_option maxHeartbeats 0 in
theorem toG (g : Gr) (h : sumG g ≤ 1048576) : CallsF Try.prog 13 [.agg (encG g)] (.agg (rvG g)) [] := by
  unfold sumG at h
  refine callsF_of_wp1 (fn := Try.f13) (k := k13) (fun _ => []) mixed (by kernel_rfl) rfl (by kernel_rfl) (by kernel_rfl) (by kernel_rfl) rfl (by simp [Try.f13]) (by simp [Arg.like]) ?_
  generalize hst : St.enter [.agg (encG g)] = st0
  have t0 : st0.tm 0 = .agg ((encG g) |>.map .t) := by rw [← hst]; rfl
  clear hst
  unfold k13
  simp [encG] at t0
  repeat' (first
    | (refine wp1_seq fun K hK => ?_)
    | (refine M_cons fun K hK => ?_)
    | (refine hK _ ?_; clear hK K)
    | (refine hX _ ?_; clear hX hY X Y)
    | (refine hY _ ?_; clear hX hY X Y)
    | (refine wp1_block ?_)
    | (refine wp1_region ?_)
    | (refine wp1_cond fun X Y hX hY => ?_)
    | (refine condK_of (fun c => ?_) (fun c => ?_) <;> (try simp at c))
    | (refine guard1_or (fun c => ?_) (fun c => ?_) <;> (have cc := c) <;> (try simp at cc) <;> (try simp (disch := omega) [t0, c]))
    | (refine callT_fl (toI _ ?_) (by simp [St.args, St.arg, t0] <;> first | rfl | exact ⟨rfl, rfl⟩ | exact ⟨rfl, rfl, rfl⟩) (by first | (simp [RV.flat, RV.flats, T.flat]; done) | (unfold RV.flat; exact flat_intRow _) | (repeat' first | exact flat_intRow _ | exact trivial | constructor | unfold RV.flat | unfold RV.flats)) (by simp [mutsOf]) ?_; omega)
    | (simp (disch := omega) [t0]))
  all_goals try (simp [t0, Back]; done)
  simp [Back, rvG]
/-- The code of laws.eqGraph. -/
def k15 : Code1 :=
  (.seq
    (.region [2, 3] false ([]) [
      ⟨some 2, Op.box 27 (Operand.tmp 0), none⟩,
      ⟨some 3, Op.box 27 (Operand.tmp 1), none⟩,
      ⟨some 4, Op.assign (Operand.const (Value.bool false)), none⟩])
    (.seq
      (.seq
        (.region [9] false ([]) [
          ⟨some 5, Op.fieldAddr 27 (Operand.tmp 2) 0, none⟩,
          ⟨some 6, Op.load 22 (Operand.tmp 5), none⟩,
          ⟨some 7, Op.fieldAddr 27 (Operand.tmp 3) 0, none⟩,
          ⟨some 8, Op.load 22 (Operand.tmp 7), none⟩,
          ⟨some 9, Op.call { callee := Callee.value (Operand.func 24), args := #[Operand.tmp 6, Operand.tmp 8], argTypes := #[22, 22] }, none⟩,
          ⟨some 10, Op.unOp UnOp.not 4 (Operand.tmp 9), none⟩])
        (.cond (Operand.tmp 10)
          (.seq
            (.region [] false ([]) [
              ⟨some 4, Op.assign (Operand.const (Value.bool false)), none⟩])
            .ret)
          .skip))
      (.seq
        (.seq
          (.region [15] false ([]) [
            ⟨some 11, Op.fieldAddr 27 (Operand.tmp 2) 1, none⟩,
            ⟨some 12, Op.load 22 (Operand.tmp 11), none⟩,
            ⟨some 13, Op.fieldAddr 27 (Operand.tmp 3) 1, none⟩,
            ⟨some 14, Op.load 22 (Operand.tmp 13), none⟩,
            ⟨some 15, Op.call { callee := Callee.value (Operand.func 24), args := #[Operand.tmp 12, Operand.tmp 14], argTypes := #[22, 22] }, none⟩,
            ⟨some 16, Op.unOp UnOp.not 4 (Operand.tmp 15), none⟩])
          (.cond (Operand.tmp 16)
            (.seq
              (.region [] false ([]) [
                ⟨some 4, Op.assign (Operand.const (Value.bool false)), none⟩])
              .ret)
            .skip))
        (.seq
          (.seq
            (.region [21] false ([]) [
              ⟨some 17, Op.fieldAddr 27 (Operand.tmp 2) 2, none⟩,
              ⟨some 18, Op.load 22 (Operand.tmp 17), none⟩,
              ⟨some 19, Op.fieldAddr 27 (Operand.tmp 3) 2, none⟩,
              ⟨some 20, Op.load 22 (Operand.tmp 19), none⟩,
              ⟨some 21, Op.call { callee := Callee.value (Operand.func 24), args := #[Operand.tmp 18, Operand.tmp 20], argTypes := #[22, 22] }, none⟩,
              ⟨some 22, Op.unOp UnOp.not 4 (Operand.tmp 21), none⟩])
            (.cond (Operand.tmp 22)
              (.seq
                (.region [] false ([]) [
                  ⟨some 4, Op.assign (Operand.const (Value.bool false)), none⟩])
                .ret)
              .skip))
          (.seq
            (.seq
              (.region [27] false ([]) [
                ⟨some 23, Op.fieldAddr 27 (Operand.tmp 2) 3, none⟩,
                ⟨some 24, Op.load 22 (Operand.tmp 23), none⟩,
                ⟨some 25, Op.fieldAddr 27 (Operand.tmp 3) 3, none⟩,
                ⟨some 26, Op.load 22 (Operand.tmp 25), none⟩,
                ⟨some 27, Op.call { callee := Callee.value (Operand.func 24), args := #[Operand.tmp 24, Operand.tmp 26], argTypes := #[22, 22] }, none⟩,
                ⟨some 28, Op.unOp UnOp.not 4 (Operand.tmp 27), none⟩])
              (.cond (Operand.tmp 28)
                (.seq
                  (.region [] false ([]) [
                    ⟨some 4, Op.assign (Operand.const (Value.bool false)), none⟩])
                  .ret)
                .skip))
            (.seq
              (.seq
                (.region [33] false ([]) [
                  ⟨some 29, Op.fieldAddr 27 (Operand.tmp 2) 4, none⟩,
                  ⟨some 30, Op.load 22 (Operand.tmp 29), none⟩,
                  ⟨some 31, Op.fieldAddr 27 (Operand.tmp 3) 4, none⟩,
                  ⟨some 32, Op.load 22 (Operand.tmp 31), none⟩,
                  ⟨some 33, Op.call { callee := Callee.value (Operand.func 24), args := #[Operand.tmp 30, Operand.tmp 32], argTypes := #[22, 22] }, none⟩,
                  ⟨some 34, Op.unOp UnOp.not 4 (Operand.tmp 33), none⟩])
                (.cond (Operand.tmp 34)
                  (.seq
                    (.region [] false ([]) [
                      ⟨some 4, Op.assign (Operand.const (Value.bool false)), none⟩])
                    .ret)
                  .skip))
              (.seq
                (.seq
                  (.region [39] false ([]) [
                    ⟨some 35, Op.fieldAddr 27 (Operand.tmp 2) 5, none⟩,
                    ⟨some 36, Op.load 22 (Operand.tmp 35), none⟩,
                    ⟨some 37, Op.fieldAddr 27 (Operand.tmp 3) 5, none⟩,
                    ⟨some 38, Op.load 22 (Operand.tmp 37), none⟩,
                    ⟨some 39, Op.call { callee := Callee.value (Operand.func 24), args := #[Operand.tmp 36, Operand.tmp 38], argTypes := #[22, 22] }, none⟩,
                    ⟨some 40, Op.unOp UnOp.not 4 (Operand.tmp 39), none⟩])
                  (.cond (Operand.tmp 40)
                    (.seq
                      (.region [] false ([]) [
                        ⟨some 4, Op.assign (Operand.const (Value.bool false)), none⟩])
                      .ret)
                    .skip))
                (.seq
                  (.seq
                    (.region [45] false ([]) [
                      ⟨some 41, Op.fieldAddr 27 (Operand.tmp 2) 6, none⟩,
                      ⟨some 42, Op.load 22 (Operand.tmp 41), none⟩,
                      ⟨some 43, Op.fieldAddr 27 (Operand.tmp 3) 6, none⟩,
                      ⟨some 44, Op.load 22 (Operand.tmp 43), none⟩,
                      ⟨some 45, Op.call { callee := Callee.value (Operand.func 24), args := #[Operand.tmp 42, Operand.tmp 44], argTypes := #[22, 22] }, none⟩,
                      ⟨some 46, Op.unOp UnOp.not 4 (Operand.tmp 45), none⟩])
                    (.cond (Operand.tmp 46)
                      (.seq
                        (.region [] false ([]) [
                          ⟨some 4, Op.assign (Operand.const (Value.bool false)), none⟩])
                        .ret)
                      .skip))
                  (.seq
                    (.region [] false ([]) [
                      ⟨some 4, Op.assign (Operand.const (Value.bool true)), none⟩])
                    .ret)))))))))
set_option maxHeartbeats 0 in
theorem eqG (g : Gr) (h : sumG g ≤ 1048576) : CallsF Try.prog 15 [.agg (encG g), .agg (encG g)] (.t (.v (.bool true))) [] := by
  unfold sumG at h
  refine callsF_of_wp1 (fn := Try.f15) (k := k15) (fun _ => []) mixed (by kernel_rfl) rfl (by kernel_rfl) (by kernel_rfl) (by kernel_rfl) rfl (by simp [Try.f15]) (by simp [Arg.like]) ?_
  generalize hst : St.enter [.agg (encG g), .agg (encG g)] = st0
  have t0 : st0.tm 0 = .agg ((encG g) |>.map .t) := by rw [← hst]; rfl
  have t1 : st0.tm 1 = .agg ((encG g) |>.map .t) := by rw [← hst]; rfl
  clear hst
  unfold k15
  simp [encG] at t0 t1
  repeat' (first
    | (refine wp1_seq fun K hK => ?_)
    | (refine M_cons fun K hK => ?_)
    | (refine hK _ ?_; clear hK K)
    | (refine hX _ ?_; clear hX hY X Y)
    | (refine hY _ ?_; clear hX hY X Y)
    | (refine wp1_block ?_)
    | (refine wp1_region ?_)
    | (refine wp1_cond fun X Y hX hY => ?_)
    | (refine condK_of (fun c => ?_) (fun c => ?_) <;> (try simp at c))
    | (refine guard1_or (fun c => ?_) (fun c => ?_) <;> (have cc := c) <;> (try simp at cc) <;> (try simp (disch := omega) [t0, t1, c]))
    | (refine callT_fl (eqI _ _ ?_ ?_) (by simp [St.args, St.arg, t0, t1] <;> first | rfl | exact ⟨rfl, rfl⟩ | exact ⟨rfl, rfl, rfl⟩) (by first | (simp [RV.flat, RV.flats, T.flat]; done) | (unfold RV.flat; exact flat_intRow _) | (repeat' first | exact flat_intRow _ | exact trivial | constructor | unfold RV.flat | unfold RV.flats)) (by simp [mutsOf]) ?_; omega; omega)
    | (simp (disch := omega) [t0, t1]))
  all_goals try (simp [t0, t1, Back]; done)
end Cal
