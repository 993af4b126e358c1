import Derived.Test.YthaebckdhcnkfaaT2
set_option linter.unusedSimpArgs false
set_option linter.unusedVariables false
namespace Cal
open Go Go.Proofs
set_option maxRecDepth 100000
/-- The code of laws.szInt64S. -/
def k41 : Code1 :=
  (.seq
    (.region [] false ([]) [
      ⟨some 4, Op.assign (Operand.const (Value.int IntKind.i64 0)), none⟩])
    (.seq
      (.region [] false ([]) [
        ⟨some 5, Op.move (Operand.tmp 1), none⟩,
        ⟨some 6, Op.move (Operand.tmp 0), none⟩,
        ⟨some 7, Op.call { callee := Callee.builtin Builtin.len, args := #[Operand.tmp 6], argTypes := #[22] }, none⟩,
        ⟨some 8, Op.binOp BinOp.sub 3 (Operand.tmp 5) (Operand.tmp 7) 3, none⟩,
        ⟨some 1, Op.assign (Operand.tmp 8), none⟩])
      (.seq
        (.seq
          (.region [] false ([]) [
            ⟨some 9, Op.move (Operand.tmp 1), none⟩,
            ⟨some 10, Op.binOp BinOp.lss 3 (Operand.tmp 9) (Operand.const (Value.int IntKind.i64 0)) 3, none⟩])
          (.cond (Operand.tmp 10)
            (.seq
              (.region [] false ([]) [
                ⟨some 4, Op.assign (Operand.const (Value.int IntKind.i64 (-1))), none⟩])
              .ret)
            .skip))
        (.seq
          (.region [] false ([]) [
            ⟨some 11, Op.move (Operand.tmp 1), none⟩,
            ⟨some 4, Op.assign (Operand.tmp 11), none⟩])
          .ret))))
theorem szI_ok (l : List Int) (left : Int) (hl : l.length ≤ left) (h1 : 0 ≤ left) (h2 : left < 1152921504606846976) :
    CallsF Try.prog 41 [.val (ints l), .val (.v (.int .i64 left))] (.t (.v (.int .i64 (left - l.length)))) [] := by
  refine callsF_of_wp1 (fn := Try.f41) (k := k41) (fun _ => []) mixed (by kernel_rfl) rfl (by kernel_rfl) (by kernel_rfl) (by kernel_rfl) rfl (by simp [Try.f41]) (by simp [Arg.like]) ?_
  generalize hst : St.enter [.val (ints l), .val (.v (.int .i64 left))] = st0
  have t0 : st0.tm 0 = .t (ints l) := by rw [← hst]; rfl
  have t1 : st0.tm 1 = .t (.v (.int .i64 left)) := by rw [← hst]; rfl
  clear hst
  unfold k41
  repeat' (first
    | (refine wp1_seq fun K hK => ?_)
    | (refine M_cons fun K hK => ?_)
    | (refine hK _ ?_; clear hK K)
    | (refine hX _ ?_; clear hX hY X Y)
    | (refine hY _ ?_; clear hX hY X Y)
    | (refine wp1_block ?_)
    | (refine wp1_region ?_)
    | (refine wp1_cond fun X Y hX hY => ?_)
    | (refine condK_of (fun c => ?_) (fun c => ?_) <;> (try simp at c))
    | (refine guard1_or (fun c => ?_) (fun c => ?_) <;> (have cc := c) <;> (try simp at cc) <;> (try simp (disch := omega) [t0, t1, c]))
    | (simp (disch := omega) [t0, t1]))
  all_goals try (simp [t0, t1, Back]; done)
  · omega
theorem szI_no (l : List Int) (left : Int) (hl : left < l.length) (h1 : 0 ≤ left) (h2 : l.length ≤ 9223372036854775807) :
    CallsF Try.prog 41 [.val (ints l), .val (.v (.int .i64 left))] (.t (.v (.int .i64 (-1)))) [] := by
  refine callsF_of_wp1 (fn := Try.f41) (k := k41) (fun _ => []) mixed (by kernel_rfl) rfl (by kernel_rfl) (by kernel_rfl) (by kernel_rfl) rfl (by simp [Try.f41]) (by simp [Arg.like]) ?_
  generalize hst : St.enter [.val (ints l), .val (.v (.int .i64 left))] = st0
  have t0 : st0.tm 0 = .t (ints l) := by rw [← hst]; rfl
  have t1 : st0.tm 1 = .t (.v (.int .i64 left)) := by rw [← hst]; rfl
  clear hst
  unfold k41
  repeat' (first
    | (refine wp1_seq fun K hK => ?_)
    | (refine M_cons fun K hK => ?_)
    | (refine hK _ ?_; clear hK K)
    | (refine hX _ ?_; clear hX hY X Y)
    | (refine hY _ ?_; clear hX hY X Y)
    | (refine wp1_block ?_)
    | (refine wp1_region ?_)
    | (refine wp1_cond fun X Y hX hY => ?_)
    | (refine condK_of (fun c => ?_) (fun c => ?_) <;> (try simp at c))
    | (refine guard1_or (fun c => ?_) (fun c => ?_) <;> (have cc := c) <;> (try simp at cc) <;> (try simp (disch := omega) [t0, t1, c]))
    | (simp (disch := omega) [t0, t1]))
  all_goals try (simp [t0, t1, Back]; done)
  · omega
/-- The code of laws.toInt64S. -/
def k22 : Code1 :=
  (.seq
    (.region [] false ([]) [
      ⟨some 2, Op.assign (Operand.const (Value.slice none 0 0)), none⟩])
    (.seq
      (.region [7] false ([]) [
        ⟨some 5, Op.move (Operand.tmp 0), none⟩,
        ⟨some 6, Op.call { callee := Callee.builtin Builtin.len, args := #[Operand.tmp 5], argTypes := #[22] }, none⟩,
        ⟨some 7, Op.makeSlice 22 (Operand.tmp 6) (Operand.tmp 6), none⟩,
        ⟨some 3, Op.assign (Operand.tmp 7), none⟩])
      (.seq
        (.seq
          (.region [] false ([]) [
            ⟨some 4, Op.assign (Operand.const (Value.int IntKind.i64 0)), none⟩])
          (.block 0
            (.loop
              (.seq
                (.seq
                  (.region [] false ([]) [
                    ⟨some 8, Op.move (Operand.tmp 4), none⟩,
                    ⟨some 9, Op.move (Operand.tmp 0), none⟩,
                    ⟨some 10, Op.call { callee := Callee.builtin Builtin.len, args := #[Operand.tmp 9], argTypes := #[22] }, none⟩,
                    ⟨some 11, Op.binOp BinOp.lss 3 (Operand.tmp 8) (Operand.tmp 10) 3, none⟩])
                  (.cond (Operand.tmp 11)
                    .skip
                    (.exit 0)))
                (.seq
                  (.block 1
                    (.region [] false ([]) [
                      ⟨some 14, Op.move (Operand.tmp 3), none⟩,
                      ⟨some 15, Op.move (Operand.tmp 4), none⟩,
                      ⟨some 16, Op.move (Operand.tmp 0), none⟩,
                      ⟨some 17, Op.move (Operand.tmp 4), none⟩,
                      ⟨some 18, Op.indexAddr 22 (Operand.tmp 16) (Operand.tmp 17), none⟩,
                      ⟨some 19, Op.load 2 (Operand.tmp 18), none⟩,
                      ⟨some 20, Op.indexAddr 22 (Operand.tmp 14) (Operand.tmp 15), none⟩,
                      ⟨none, Op.store 2 (Operand.tmp 20) (Operand.tmp 19), none⟩]))
                  (.region [] false ([]) [
                    ⟨some 12, Op.move (Operand.tmp 4), none⟩,
                    ⟨some 13, Op.binOp BinOp.add 3 (Operand.tmp 12) (Operand.const (Value.int IntKind.i64 1)) 3, none⟩,
                    ⟨some 4, Op.assign (Operand.tmp 13), none⟩]))))))
        (.seq
          (.region [] false ([]) [
            ⟨some 21, Op.move (Operand.tmp 3), none⟩,
            ⟨some 2, Op.assign (Operand.tmp 21), none⟩])
          .ret))))
theorem toI (l : List Int) (hl : l.length ≤ 1048576) :
    CallsF Try.prog 22 [.val (ints l)] (.own 1 (intRow l)) [] := by
  refine callsF_of_wp1 (fn := Try.f22) (k := k22) (fun _ => []) mixed (by kernel_rfl) rfl (by kernel_rfl) (by kernel_rfl) (by kernel_rfl) rfl (by simp [Try.f22]) (by simp [Arg.like]) ?_
  generalize hst : St.enter [.val (ints l)] = st0
  have t0 : st0.tm 0 = .t (ints l) := by rw [← hst]; rfl
  clear hst
  unfold k22
  repeat' (first
    | (refine wp1_seq fun K hK => ?_)
    | (refine M_cons fun K hK => ?_)
    | (refine hK _ ?_; clear hK K)
    | (refine hX _ ?_; clear hX hY X Y)
    | (refine hY _ ?_; clear hX hY X Y)
    | (refine wp1_block ?_)
    | (refine wp1_region ?_)
    | (refine wp1_cond fun X Y hX hY => ?_)
    | (refine condK_of (fun c => ?_) (fun c => ?_) <;> (try simp at c))
    | (refine guard1_or (fun c => ?_) (fun c => ?_) <;> (have cc := c) <;> (try simp at cc) <;> (try simp (disch := omega) [t0, c]))
    | (simp (disch := omega) [t0]))
  all_goals try (simp [t0, Back]; done)
  have hJ : ∀ s : St, s.tm 3 = .row (7, 0) 1 0 l.length → s.ob (7, 0) = some (.row 1 (intRow l)) → K s := by
    intro s s3 o
    repeat' (first
      | (refine wp1_seq fun K hK => ?_)
      | (refine M_cons fun K hK => ?_)
      | (refine hK _ ?_; clear hK K)
      | (refine hX _ ?_; clear hX hY X Y)
      | (refine hY _ ?_; clear hX hY X Y)
      | (refine wp1_block ?_)
      | (refine wp1_region ?_)
      | (refine wp1_cond fun X Y hX hY => ?_)
      | (refine condK_of (fun c => ?_) (fun c => ?_) <;> (try simp at c))
      | (refine guard1_or (fun c => ?_) (fun c => ?_) <;> (have cc := c) <;> (try simp at cc) <;> (try simp (disch := omega) [s3, o, c]))
      | (simp (disch := omega) [s3, o]))
    all_goals try (simp [s3, o, Back]; done)
  clear hK
  refine wp1_loop (fun n s => ∃ (k : Nat) (xs : List Int), s.tm 0 = .t (ints l) ∧ s.tm 3 = .row (7, 0) 1 0 l.length ∧ s.tm 4 = .t (.v (.int .i64 k)) ∧ s.ob (7, 0) = some (.row 1 (intRow xs)) ∧ xs.length = l.length ∧ k ≤ l.length ∧ n = l.length - k ∧ ∀ i < k, rd xs i = rd l i) l.length ?_ ?_
  · refine ⟨0, List.replicate l.length 0, ?_⟩
    simp [t0]
  · rintro n s ⟨k, xs, s0, s3, s4, o, hc, hk, rfl, heq⟩ K' hK'
    repeat' (first
      | (refine wp1_seq fun K hK => ?_)
      | (refine M_cons fun K hK => ?_)
      | (refine hK _ ?_; clear hK K)
      | (refine hX _ ?_; clear hX hY X Y)
      | (refine hY _ ?_; clear hX hY X Y)
      | (refine wp1_block ?_)
      | (refine wp1_region ?_)
      | (refine wp1_cond fun X Y hX hY => ?_)
      | (refine condK_of (fun c => ?_) (fun c => ?_) <;> (try simp at c))
      | (refine guard1_or (fun c => ?_) (fun c => ?_) <;> (have cc := c) <;> (try simp at cc) <;> (try simp (disch := omega) [s0, s3, s4, o, hc, c]))
      | (simp (disch := omega) [s0, s3, s4, o, hc]))
    all_goals try (simp [s0, s3, s4, o, hc, Back]; done)
    · refine hK' (l.length - (k + 1)) _ (by omega) ⟨k + 1, xs.set k (rd l k), ?_⟩
      simp [s0, s3, s4, hc]
      exact ⟨by omega, below_succ (p := fun i : Nat => rd (xs.set k (rd l k)) i = rd l i) (fun i hi => by rw [rd_set_ne (by omega)]; exact heq i hi) (rd_set_eq (by omega))⟩
    · refine hJ _ (by simp [s3]) ?_
      simp [o]
      rw [eq_of_rd hc fun i hi => heq i (by omega)]
end Cal
