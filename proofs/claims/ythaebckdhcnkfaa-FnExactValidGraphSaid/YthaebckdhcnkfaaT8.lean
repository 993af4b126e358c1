import Derived.Test.YthaebckdhcnkfaaT5
import Derived.Test.YthaebckdhcnkfaaVI
import Derived.Test.YthaebckdhcnkfaaVS
set_option linter.unusedSimpArgs false
set_option linter.unusedVariables false
namespace Cal
open Go Go.Proofs
set_option maxRecDepth 100000
/-- The code of laws.FnExactValidGraph. -/
def k3 : Code1 :=
  (.seq
    (.region [1] false ([]) [
      ⟨some 1, Op.box 24 (Operand.tmp 0), none⟩,
      ⟨some 2, Op.assign (Operand.const (Value.bool false)), none⟩])
    (.seq
      (.region [] false ([]) [
        ⟨some 3, Op.assign (Operand.const (Value.int IntKind.i64 1048576)), none⟩])
      (.seq
        (.region [9] false ([]) [
          ⟨some 7, Op.load 24 (Operand.tmp 1), none⟩,
          ⟨some 8, Op.move (Operand.tmp 3), none⟩,
          ⟨some 9, Op.call { callee := Callee.value (Operand.func 11), args := #[Operand.tmp 7, Operand.tmp 8], argTypes := #[24, 3] }, none⟩,
          ⟨some 3, Op.assign (Operand.tmp 9), none⟩])
        (.seq
          (.seq
            (.region [] false ([]) [
              ⟨some 10, Op.move (Operand.tmp 3), none⟩,
              ⟨some 11, Op.binOp BinOp.lss 3 (Operand.tmp 10) (Operand.const (Value.int IntKind.i64 0)) 3, none⟩])
            (.cond (Operand.tmp 11)
              (.seq
                (.region [] false ([]) [
                  ⟨some 2, Op.assign (Operand.const (Value.bool true)), none⟩])
                .ret)
              .skip))
          (.seq
            (.region [13, 14] false ([]) [
              ⟨some 12, Op.load 24 (Operand.tmp 1), none⟩,
              ⟨some 13, Op.call { callee := Callee.value (Operand.func 13), args := #[Operand.tmp 12], argTypes := #[24] }, none⟩,
              ⟨some 14, Op.call { callee := Callee.value (Operand.func 12), args := #[Operand.tmp 13], argTypes := #[27] }, none⟩,
              ⟨some 4, Op.assign (Operand.tmp 14), none⟩])
            (.seq
              (.region [16, 5] false ([]) [
                ⟨some 15, Op.load 24 (Operand.tmp 1), none⟩,
                ⟨some 16, Op.call { callee := Callee.value (Operand.func 13), args := #[Operand.tmp 15], argTypes := #[24] }, none⟩,
                ⟨some 5, Op.alloc 27, none⟩,
                ⟨none, Op.store 27 (Operand.tmp 5) (Operand.tmp 16), none⟩])
              (.seq
                (.region [18] false ([]) [
                  ⟨some 17, Op.load 27 (Operand.tmp 5), none⟩,
                  ⟨some 18, Op.call { callee := Callee.value (Operand.func 14), args := #[Operand.tmp 17], argTypes := #[27] }, none⟩,
                  ⟨some 6, Op.assign (Operand.tmp 18), none⟩])
                (.seq
                  (.seq
                    (.region [] false ([]) [
                      ⟨some 19, Op.move (Operand.tmp 6), none⟩,
                      ⟨some 20, Op.move (Operand.tmp 4), none⟩,
                      ⟨some 21, Op.binOp BinOp.neq 4 (Operand.tmp 19) (Operand.tmp 20) 4, none⟩])
                    (.cond (Operand.tmp 21)
                      (.seq
                        (.region [] false ([]) [
                          ⟨some 2, Op.assign (Operand.const (Value.bool false)), none⟩])
                        .ret)
                      .skip))
                  (.seq
                    (.seq
                      (.region [24, 25] true ([]) [
                        ⟨some 22, Op.load 27 (Operand.tmp 5), none⟩,
                        ⟨some 23, Op.load 24 (Operand.tmp 1), none⟩,
                        ⟨some 24, Op.call { callee := Callee.value (Operand.func 13), args := #[Operand.tmp 23], argTypes := #[24] }, none⟩,
                        ⟨some 25, Op.call { callee := Callee.value (Operand.func 15), args := #[Operand.tmp 22, Operand.tmp 24], argTypes := #[27, 27] }, none⟩,
                        ⟨some 26, Op.unOp UnOp.not 4 (Operand.tmp 25), none⟩])
                      (.cond (Operand.tmp 26)
                        (.seq
                          (.region [] false ([]) [
                            ⟨some 2, Op.assign (Operand.const (Value.bool false)), none⟩])
                          .ret)
                        .skip))
                    (.seq
                      (.region [] false ([]) [
                        ⟨some 2, Op.assign (Operand.const (Value.bool true)), none⟩])
                      .ret))))))))))
set_option maxHeartbeats 0 in
theorem lawVG (g : Gr) (hg : smallG g) : CallsF Try.prog 3 [.agg (encG g)] (.t (.v (.bool true))) [] := by
  refine callsF_of_wp1 (fn := Try.f3) (k := k3) (fun _ => []) mixed (by kernel_rfl) rfl (by kernel_rfl) (by kernel_rfl) (by kernel_rfl) rfl (by simp [Try.f3]) (by simp [Arg.like]) ?_
  generalize hst : St.enter [.agg (encG g)] = st0
  have t0 : st0.tm 0 = .agg ((encG g) |>.map .t) := by rw [← hst]; rfl
  clear hst
  unfold k3
  simp [encG] at t0
  by_cases hs : 1048576 < sumG g
  · repeat' (first
      | (refine wp1_seq fun K hK => ?_)
      | (refine M_cons fun K hK => ?_)
      | (refine hK _ ?_; clear hK K)
      | (refine hX _ ?_; clear hX hY X Y)
      | (refine hY _ ?_; clear hX hY X Y)
      | (refine wp1_block ?_)
      | (refine wp1_region ?_)
      | (refine wp1_cond fun X Y hX hY => ?_)
      | (refine condK_of (fun c => ?_) (fun c => ?_) <;> (try simp at c))
      | (refine guard1_or (fun c => ?_) (fun c => ?_) <;> (have cc := c) <;> (try simp at cc) <;> (try simp (disch := omega) [t0, hs, encG, c]))
      | (refine callT_fl (szG g _ hg ?_ ?_) (by simp [St.args, St.arg, t0, hs, encG] <;> first | rfl | exact ⟨rfl, rfl⟩ | exact ⟨rfl, rfl, rfl⟩) (by first | (simp [RV.flat, RV.flats, T.flat]; done) | (unfold RV.flat; exact flat_intRow _) | (repeat' first | exact flat_intRow _ | exact trivial | constructor | unfold RV.flat | unfold RV.flats)) (by simp [mutsOf]) ?_; omega; omega)
      | (simp (disch := omega) [t0, hs, encG]))
    all_goals try (simp [t0, hs, encG, Back]; done)
  · have hs2 : sumG g ≤ 1048576 := by omega
    have hq := hs2
    unfold sumG at hq
    have hs3 : 0 ≤ 1048576 - sumG g := by omega
    repeat' (first
      | (refine wp1_seq fun K hK => ?_)
      | (refine M_cons fun K hK => ?_)
      | (refine hK _ ?_; clear hK K)
      | (refine hX _ ?_; clear hX hY X Y)
      | (refine hY _ ?_; clear hX hY X Y)
      | (refine wp1_block ?_)
      | (refine wp1_region ?_)
      | (refine wp1_cond fun X Y hX hY => ?_)
      | (refine condK_of (fun c => ?_) (fun c => ?_) <;> (try simp at c))
      | (refine guard1_or (fun c => ?_) (fun c => ?_) <;> (have cc := c) <;> (try simp at cc) <;> (try simp (disch := omega) [t0, hs, encG, rvG, c]))
      | (refine callT_fl (szG g _ hg ?_ ?_) (by simp [St.args, St.arg, t0, hs, encG, rvG] <;> first | rfl | exact ⟨rfl, rfl⟩ | exact ⟨rfl, rfl, rfl⟩) (by first | (simp [RV.flat, RV.flats, T.flat]; done) | (unfold RV.flat; exact flat_intRow _) | (repeat' first | exact flat_intRow _ | exact trivial | constructor | unfold RV.flat | unfold RV.flats)) (by simp [mutsOf]) ?_; omega; omega)
      | (refine callT_fl (toG g ?_) (by simp [St.args, St.arg, t0, hs, encG, rvG] <;> first | rfl | exact ⟨rfl, rfl⟩ | exact ⟨rfl, rfl, rfl⟩) (by first | (simp [RV.flat, RV.flats, T.flat]; done) | (unfold RV.flat; exact flat_intRow _) | (repeat' first | exact flat_intRow _ | exact trivial | constructor | unfold RV.flat | unfold RV.flats)) (by simp [mutsOf]) ?_; omega)
      | (refine callT_fl (vgS g ?_ ?_ ?_ ?_ ?_ ?_ ?_) (by simp [St.args, St.arg, t0, hs, encG, rvG] <;> first | rfl | exact ⟨rfl, rfl⟩ | exact ⟨rfl, rfl, rfl⟩) (by first | (simp [RV.flat, RV.flats, T.flat]; done) | (unfold RV.flat; exact flat_intRow _) | (repeat' first | exact flat_intRow _ | exact trivial | constructor | unfold RV.flat | unfold RV.flats)) (by simp [mutsOf]) ?_; omega; omega; omega; omega; omega; omega; omega)
      | (refine callT_fl (vgI g ?_ ?_ ?_ ?_ ?_ ?_ ?_) (by simp [St.args, St.arg, t0, hs, encG, rvG] <;> first | rfl | exact ⟨rfl, rfl⟩ | exact ⟨rfl, rfl, rfl⟩) (by first | (simp [RV.flat, RV.flats, T.flat]; done) | (unfold RV.flat; exact flat_intRow _) | (repeat' first | exact flat_intRow _ | exact trivial | constructor | unfold RV.flat | unfold RV.flats)) (by simp [mutsOf]) ?_; omega; omega; omega; omega; omega; omega; omega)
      | (refine callT_fl (eqG g ?_) (by simp [St.args, St.arg, t0, hs, encG, rvG] <;> first | rfl | exact ⟨rfl, rfl⟩ | exact ⟨rfl, rfl, rfl⟩) (by first | (simp [RV.flat, RV.flats, T.flat]; done) | (unfold RV.flat; exact flat_intRow _) | (repeat' first | exact flat_intRow _ | exact trivial | constructor | unfold RV.flat | unfold RV.flats)) (by simp [mutsOf]) ?_; omega)
      | (simp (disch := omega) [t0, hs, encG, rvG]))
    all_goals try (simp [t0, hs, encG, rvG, Back]; done)
end Cal
