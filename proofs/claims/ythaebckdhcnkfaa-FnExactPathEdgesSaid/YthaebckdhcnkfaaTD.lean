import Derived.Test.YthaebckdhcnkfaaSim2
set_option linter.unusedSimpArgs false
set_option linter.unusedVariables false
namespace Cal
open Go Go.Proofs
set_option maxRecDepth 100000
/-- k, k + 1, .. -/
def marked (k : Int) (n : Nat) : List Int := (List.range n).map fun (i : Nat) => k + (i : Int)
@[simp] theorem marked_length (k : Int) (n : Nat) : (marked k n).length = n := by simp [marked]
theorem rd_marked {k : Int} {n i : Nat} (h : i < n) : rd (marked k n) i = k + i := by
  unfold rd marked
  simp [List.getD_eq_getElem?_getD, h]
/-- The code of laws.markInt64S. -/
def k28 : Code1 :=
  (.seq
    (.region [] false ([]) [
      ⟨some 4, Op.assign (Operand.const (Value.int IntKind.i64 0)), none⟩])
    (.seq
      (.seq
        (.region [] false ([]) [
          ⟨some 5, Op.assign (Operand.const (Value.int IntKind.i64 0)), none⟩])
        (.block 0
          (.loop
            (.seq
              (.seq
                (.region [] false ([]) [
                  ⟨some 6, Op.move (Operand.tmp 5), none⟩,
                  ⟨some 7, Op.move (Operand.tmp 0), none⟩,
                  ⟨some 8, Op.call { callee := Callee.builtin Builtin.len, args := #[Operand.tmp 7], argTypes := #[22] }, none⟩,
                  ⟨some 9, Op.binOp BinOp.lss 3 (Operand.tmp 6) (Operand.tmp 8) 3, none⟩])
                (.cond (Operand.tmp 9)
                  .skip
                  (.exit 0)))
              (.seq
                (.block 1
                  (.seq
                    (.region [] false ([]) [
                      ⟨some 12, Op.move (Operand.tmp 0), none⟩,
                      ⟨some 13, Op.move (Operand.tmp 5), none⟩,
                      ⟨some 14, Op.move (Operand.tmp 1), none⟩,
                      ⟨some 15, Op.indexAddr 22 (Operand.tmp 12) (Operand.tmp 13), none⟩,
                      ⟨none, Op.store 2 (Operand.tmp 15) (Operand.tmp 14), none⟩])
                    (.region [] false ([]) [
                      ⟨some 16, Op.move (Operand.tmp 1), none⟩,
                      ⟨some 17, Op.binOp BinOp.add 3 (Operand.tmp 16) (Operand.const (Value.int IntKind.i64 1)) 3, none⟩,
                      ⟨some 1, Op.assign (Operand.tmp 17), none⟩])))
                (.region [] false ([]) [
                  ⟨some 10, Op.move (Operand.tmp 5), none⟩,
                  ⟨some 11, Op.binOp BinOp.add 3 (Operand.tmp 10) (Operand.const (Value.int IntKind.i64 1)) 3, none⟩,
                  ⟨some 5, Op.assign (Operand.tmp 11), none⟩]))))))
      (.seq
        (.region [] false ([]) [
          ⟨some 18, Op.move (Operand.tmp 1), none⟩,
          ⟨some 4, Op.assign (Operand.tmp 18), none⟩])
        .ret)))
theorem markI (l : List Int) (k : Int) (h0 : 0 ≤ k) (h1 : k ≤ 1000000000) (h2 : l.length ≤ 1048576) :
    CallsF Try.prog 28 [.mrow 1 (intRow l), .val (.v (.int .i64 k))] (.t (.v (.int .i64 (k + l.length)))) [some (.mrow 1 (intRow (marked k l.length)))] := by
  refine callsF_of_wp2 (fn := Try.f28) (k := k28) (fun _ => []) mixed (by kernel_rfl) rfl (by kernel_rfl) (by kernel_rfl) (by kernel_rfl) rfl (by simp [Try.f28]) (by simp [Arg.like]) ?_
  generalize hst : St.enter [.mrow 1 (intRow l), .val (.v (.int .i64 k))] = st0
  have t0 : st0.tm 0 = .row (100000, 0) 1 0 ((intRow l)).length := by rw [← hst]; rfl
  have o0 : st0.ob (100000, 0) = some (.row 1 (intRow l)) := by rw [← hst]; rfl
  have t1 : st0.tm 1 = .t (.v (.int .i64 k)) := by rw [← hst]; rfl
  clear hst
  unfold k28
  simp at t0
  repeat' (first
    | (refine wp2_seq fun K hK => ?_)
    | (refine wp1_seq fun K hK => ?_)
    | (refine M_cons fun K hK => ?_)
    | (refine hK _ ?_; clear hK K)
    | (clear hK K; refine hK _ ?_; clear hK K)
    | (clear hK K; clear hK K; refine hK _ ?_; clear hK K)
    | (clear hK K; clear hK K; clear hK K; refine hK _ ?_; clear hK K)
    | (refine hX _ ?_; clear hX hY X Y)
    | (refine hY _ ?_; clear hX hY X Y)
    | (refine wp2_block ?_)
    | (refine wp1_block ?_)
    | (refine wp2_region ?_)
    | (refine wp1_region ?_)
    | (refine wp2_cond fun X Y hX hY => ?_)
    | (refine wp1_cond fun X Y hX hY => ?_)
    | (refine condK_of (fun c => ?_) (fun c => ?_) <;> (try simp [-List.length_eq_zero_iff] at c))
    | (refine guard1_or (fun c => ?_) (fun c => ?_) <;> (have cc := c) <;> (try simp [-List.length_eq_zero_iff] at cc) <;> (try simp (disch := omega) [t0, o0, t1, c]))
    | (simp (disch := omega) [t0, o0, t1]))
  all_goals try (simp [t0, o0, t1, Back]; done)
  have hJ : ∀ s, s.tm 1 = .t (.v (.int .i64 (k + l.length))) → s.ob (100000, 0) = some (.row 1 (intRow (marked k l.length))) → K s := by
    intro s s1 o
    have hb : base = 100000 := rfl
    repeat' (first
      | (refine wp2_seq fun K hK => ?_)
      | (refine wp1_seq fun K hK => ?_)
      | (refine M_cons fun K hK => ?_)
      | (refine hK _ ?_; clear hK K)
      | (clear hK K; refine hK _ ?_; clear hK K)
      | (clear hK K; clear hK K; refine hK _ ?_; clear hK K)
      | (clear hK K; clear hK K; clear hK K; refine hK _ ?_; clear hK K)
      | (refine hX _ ?_; clear hX hY X Y)
      | (refine hY _ ?_; clear hX hY X Y)
      | (refine wp2_block ?_)
      | (refine wp1_block ?_)
      | (refine wp2_region ?_)
      | (refine wp1_region ?_)
      | (refine wp2_cond fun X Y hX hY => ?_)
      | (refine wp1_cond fun X Y hX hY => ?_)
      | (refine condK_of (fun c => ?_) (fun c => ?_) <;> (try simp [-List.length_eq_zero_iff] at c))
      | (refine guard1_or (fun c => ?_) (fun c => ?_) <;> (have cc := c) <;> (try simp [-List.length_eq_zero_iff] at cc) <;> (try simp (disch := omega) [s1, o, hb, c]))
      | (simp (disch := omega) [s1, o, hb]))
    all_goals try (simp [s1, o, hb, Back]; done)
  clear hK
  refine wp2_loop (fun n s => ∃ (j : Nat) (xs : List Int), s.tm 0 = .row (100000, 0) 1 0 l.length ∧ s.ob (100000, 0) = some (.row 1 (intRow xs)) ∧ xs.length = l.length ∧ s.tm 5 = .t (.v (.int .i64 j)) ∧ s.tm 1 = .t (.v (.int .i64 (k + j))) ∧ j ≤ l.length ∧ n = l.length - j ∧ ∀ i < j, rd xs i = k + i) l.length ?_ ?_
  · exact ⟨0, l, by simp [t0, o0, t1]⟩
  · rintro n s ⟨j, xs, s0, o, hx, s5, s1, hj, rfl, hq⟩ K' hK'
    repeat' (first
      | (refine wp2_seq fun K hK => ?_)
      | (refine wp1_seq fun K hK => ?_)
      | (refine M_cons fun K hK => ?_)
      | (refine hK _ ?_; clear hK K)
      | (clear hK K; refine hK _ ?_; clear hK K)
      | (clear hK K; clear hK K; refine hK _ ?_; clear hK K)
      | (clear hK K; clear hK K; clear hK K; refine hK _ ?_; clear hK K)
      | (refine hX _ ?_; clear hX hY X Y)
      | (refine hY _ ?_; clear hX hY X Y)
      | (refine wp2_block ?_)
      | (refine wp1_block ?_)
      | (refine wp2_region ?_)
      | (refine wp1_region ?_)
      | (refine wp2_cond fun X Y hX hY => ?_)
      | (refine wp1_cond fun X Y hX hY => ?_)
      | (refine condK_of (fun c => ?_) (fun c => ?_) <;> (try simp [-List.length_eq_zero_iff] at c))
      | (refine guard1_or (fun c => ?_) (fun c => ?_) <;> (have cc := c) <;> (try simp [-List.length_eq_zero_iff] at cc) <;> (try simp (disch := omega) [s0, o, s5, s1, hx, c]))
      | (simp (disch := omega) [s0, o, s5, s1, hx]))
    all_goals try (simp [s0, o, s5, s1, hx, Back]; done)
    · refine hK' (l.length - (j + 1)) _ (by omega) ⟨j + 1, xs.set j (k + j), ?_⟩
      simp [s0, hx]
      refine ⟨by omega, by omega, below_succ (p := fun i : Nat => rd (xs.set j (k + j)) i = k + i) (fun i hi => ?_) (rd_set_eq (by omega))⟩
      rw [rd_set_ne (by omega)]
      exact hq i hi
    · have hjl : j = l.length := by omega
      refine hJ _ ?_ ?_
      · simp [s1, hjl]
      · simp [o]
        rw [eq_of_rd (a := xs) (b := marked k l.length) (by simp [hx]) fun i hi => by rw [hq i (by omega), rd_marked (by omega)]]
/-- The code of laws.heldInt64S. -/
def k29 : Code1 :=
  (.seq
    (.region [] false ([]) [
      ⟨some 4, Op.assign (Operand.const (Value.int IntKind.i64 0)), none⟩])
    (.seq
      (.seq
        (.region [] false ([]) [
          ⟨some 5, Op.assign (Operand.const (Value.int IntKind.i64 0)), none⟩])
        (.block 0
          (.loop
            (.seq
              (.seq
                (.region [] false ([]) [
                  ⟨some 6, Op.move (Operand.tmp 5), none⟩,
                  ⟨some 7, Op.move (Operand.tmp 0), none⟩,
                  ⟨some 8, Op.call { callee := Callee.builtin Builtin.len, args := #[Operand.tmp 7], argTypes := #[22] }, none⟩,
                  ⟨some 9, Op.binOp BinOp.lss 3 (Operand.tmp 6) (Operand.tmp 8) 3, none⟩])
                (.cond (Operand.tmp 9)
                  .skip
                  (.exit 0)))
              (.seq
                (.block 1
                  (.seq
                    (.seq
                      (.region [] false ([]) [
                        ⟨some 12, Op.move (Operand.tmp 0), none⟩,
                        ⟨some 13, Op.move (Operand.tmp 5), none⟩,
                        ⟨some 14, Op.indexAddr 22 (Operand.tmp 12) (Operand.tmp 13), none⟩,
                        ⟨some 15, Op.load 2 (Operand.tmp 14), none⟩,
                        ⟨some 16, Op.move (Operand.tmp 1), none⟩,
                        ⟨some 17, Op.binOp BinOp.neq 2 (Operand.tmp 15) (Operand.tmp 16) 2, none⟩])
                      (.cond (Operand.tmp 17)
                        (.seq
                          (.region [] false ([]) [
                            ⟨some 4, Op.assign (Operand.const (Value.int IntKind.i64 (-1))), none⟩])
                          .ret)
                        .skip))
                    (.region [] false ([]) [
                      ⟨some 18, Op.move (Operand.tmp 1), none⟩,
                      ⟨some 19, Op.binOp BinOp.add 3 (Operand.tmp 18) (Operand.const (Value.int IntKind.i64 1)) 3, none⟩,
                      ⟨some 1, Op.assign (Operand.tmp 19), none⟩])))
                (.region [] false ([]) [
                  ⟨some 10, Op.move (Operand.tmp 5), none⟩,
                  ⟨some 11, Op.binOp BinOp.add 3 (Operand.tmp 10) (Operand.const (Value.int IntKind.i64 1)) 3, none⟩,
                  ⟨some 5, Op.assign (Operand.tmp 11), none⟩]))))))
      (.seq
        (.region [] false ([]) [
          ⟨some 20, Op.move (Operand.tmp 1), none⟩,
          ⟨some 4, Op.assign (Operand.tmp 20), none⟩])
        .ret)))
theorem heldI (n : Nat) (k : Int) (h0 : 0 ≤ k) (h1 : k ≤ 1000000000) (h2 : n ≤ 1048576) :
    CallsF Try.prog 29 [.val (ints (marked k n)), .val (.v (.int .i64 k))] (.t (.v (.int .i64 (k + n)))) [] := by
  refine callsF_of_wp2 (fn := Try.f29) (k := k29) (fun _ => []) mixed (by kernel_rfl) rfl (by kernel_rfl) (by kernel_rfl) (by kernel_rfl) rfl (by simp [Try.f29]) (by simp [Arg.like]) ?_
  generalize hst : St.enter [.val (ints (marked k n)), .val (.v (.int .i64 k))] = st0
  have t0 : st0.tm 0 = .t (ints (marked k n)) := by rw [← hst]; rfl
  have t1 : st0.tm 1 = .t (.v (.int .i64 k)) := by rw [← hst]; rfl
  clear hst
  unfold k29
  have hl : (marked k n).length = n := marked_length k n
  repeat' (first
    | (refine wp2_seq fun K hK => ?_)
    | (refine wp1_seq fun K hK => ?_)
    | (refine M_cons fun K hK => ?_)
    | (refine hK _ ?_; clear hK K)
    | (clear hK K; refine hK _ ?_; clear hK K)
    | (clear hK K; clear hK K; refine hK _ ?_; clear hK K)
    | (clear hK K; clear hK K; clear hK K; refine hK _ ?_; clear hK K)
    | (refine hX _ ?_; clear hX hY X Y)
    | (refine hY _ ?_; clear hX hY X Y)
    | (refine wp2_block ?_)
    | (refine wp1_block ?_)
    | (refine wp2_region ?_)
    | (refine wp1_region ?_)
    | (refine wp2_cond fun X Y hX hY => ?_)
    | (refine wp1_cond fun X Y hX hY => ?_)
    | (refine condK_of (fun c => ?_) (fun c => ?_) <;> (try simp [-List.length_eq_zero_iff] at c))
    | (refine guard1_or (fun c => ?_) (fun c => ?_) <;> (have cc := c) <;> (try simp [-List.length_eq_zero_iff] at cc) <;> (try simp (disch := omega) [t0, t1, c]))
    | (simp (disch := omega) [t0, t1]))
  all_goals try (simp [t0, t1, Back]; done)
  have hJ : ∀ s, s.tm 1 = .t (.v (.int .i64 (k + n))) → K s := by
    intro s s1
    repeat' (first
      | (refine wp2_seq fun K hK => ?_)
      | (refine wp1_seq fun K hK => ?_)
      | (refine M_cons fun K hK => ?_)
      | (refine hK _ ?_; clear hK K)
      | (clear hK K; refine hK _ ?_; clear hK K)
      | (clear hK K; clear hK K; refine hK _ ?_; clear hK K)
      | (clear hK K; clear hK K; clear hK K; refine hK _ ?_; clear hK K)
      | (refine hX _ ?_; clear hX hY X Y)
      | (refine hY _ ?_; clear hX hY X Y)
      | (refine wp2_block ?_)
      | (refine wp1_block ?_)
      | (refine wp2_region ?_)
      | (refine wp1_region ?_)
      | (refine wp2_cond fun X Y hX hY => ?_)
      | (refine wp1_cond fun X Y hX hY => ?_)
      | (refine condK_of (fun c => ?_) (fun c => ?_) <;> (try simp [-List.length_eq_zero_iff] at c))
      | (refine guard1_or (fun c => ?_) (fun c => ?_) <;> (have cc := c) <;> (try simp [-List.length_eq_zero_iff] at cc) <;> (try simp (disch := omega) [s1, c]))
      | (simp (disch := omega) [s1]))
    all_goals try (simp [s1, Back]; done)
  clear hK
  refine wp2_loop (fun m s => ∃ j : Nat, s.tm 0 = .t (ints (marked k n)) ∧ s.tm 5 = .t (.v (.int .i64 j)) ∧ s.tm 1 = .t (.v (.int .i64 (k + j))) ∧ j ≤ n ∧ m = n - j) n ?_ ?_
  · exact ⟨0, by simp [t0, t1]⟩
  · rintro m s ⟨j, s0, s5, s1, hj, rfl⟩ K' hK'
    have hr : j < n → rd (marked k n) j = k + j := fun h => rd_marked h
    repeat' (first
      | (refine wp2_seq fun K hK => ?_)
      | (refine wp1_seq fun K hK => ?_)
      | (refine M_cons fun K hK => ?_)
      | (refine hK _ ?_; clear hK K)
      | (clear hK K; refine hK _ ?_; clear hK K)
      | (clear hK K; clear hK K; refine hK _ ?_; clear hK K)
      | (clear hK K; clear hK K; clear hK K; refine hK _ ?_; clear hK K)
      | (refine hX _ ?_; clear hX hY X Y)
      | (refine hY _ ?_; clear hX hY X Y)
      | (refine wp2_block ?_)
      | (refine wp1_block ?_)
      | (refine wp2_region ?_)
      | (refine wp1_region ?_)
      | (refine wp2_cond fun X Y hX hY => ?_)
      | (refine wp1_cond fun X Y hX hY => ?_)
      | (refine condK_of (fun c => ?_) (fun c => ?_) <;> (try simp [-List.length_eq_zero_iff] at c))
      | (refine guard1_or (fun c => ?_) (fun c => ?_) <;> (have cc := c) <;> (try simp [-List.length_eq_zero_iff] at cc) <;> (try simp (disch := omega) [s0, s5, s1, c]))
      | (simp (disch := omega) [s0, s5, s1]))
    all_goals try (simp [s0, s5, s1, Back]; done)
    all_goals first
      | omega
      | (refine hK' (n - (j + 1)) _ (by omega) ⟨j + 1, ?_⟩; simp [s0]; omega)
      | (refine hJ _ ?_; have hjn : j = n := by omega
         simp [s1, hjn])
      | skip
/-- The code of laws.markGraph. -/
def k27 : Code1 :=
  (.seq
    (.region [2] false ([]) [
      ⟨some 2, Op.box 27 (Operand.tmp 0), none⟩,
      ⟨some 4, Op.assign (Operand.const (Value.int IntKind.i64 0)), none⟩])
    (.seq
      (.region [8] false ([]) [
        ⟨some 5, Op.fieldAddr 27 (Operand.tmp 2) 0, none⟩,
        ⟨some 6, Op.load 22 (Operand.tmp 5), none⟩,
        ⟨some 7, Op.move (Operand.tmp 1), none⟩,
        ⟨some 8, Op.call { callee := Callee.value (Operand.func 28), args := #[Operand.tmp 6, Operand.tmp 7], argTypes := #[22, 3] }, none⟩,
        ⟨some 1, Op.assign (Operand.tmp 8), none⟩])
      (.seq
        (.region [12] false ([]) [
          ⟨some 9, Op.fieldAddr 27 (Operand.tmp 2) 1, none⟩,
          ⟨some 10, Op.load 22 (Operand.tmp 9), none⟩,
          ⟨some 11, Op.move (Operand.tmp 1), none⟩,
          ⟨some 12, Op.call { callee := Callee.value (Operand.func 28), args := #[Operand.tmp 10, Operand.tmp 11], argTypes := #[22, 3] }, none⟩,
          ⟨some 1, Op.assign (Operand.tmp 12), none⟩])
        (.seq
          (.region [16] false ([]) [
            ⟨some 13, Op.fieldAddr 27 (Operand.tmp 2) 2, none⟩,
            ⟨some 14, Op.load 22 (Operand.tmp 13), none⟩,
            ⟨some 15, Op.move (Operand.tmp 1), none⟩,
            ⟨some 16, Op.call { callee := Callee.value (Operand.func 28), args := #[Operand.tmp 14, Operand.tmp 15], argTypes := #[22, 3] }, none⟩,
            ⟨some 1, Op.assign (Operand.tmp 16), none⟩])
          (.seq
            (.region [20] false ([]) [
              ⟨some 17, Op.fieldAddr 27 (Operand.tmp 2) 3, none⟩,
              ⟨some 18, Op.load 22 (Operand.tmp 17), none⟩,
              ⟨some 19, Op.move (Operand.tmp 1), none⟩,
              ⟨some 20, Op.call { callee := Callee.value (Operand.func 28), args := #[Operand.tmp 18, Operand.tmp 19], argTypes := #[22, 3] }, none⟩,
              ⟨some 1, Op.assign (Operand.tmp 20), none⟩])
            (.seq
              (.region [24] false ([]) [
                ⟨some 21, Op.fieldAddr 27 (Operand.tmp 2) 4, none⟩,
                ⟨some 22, Op.load 22 (Operand.tmp 21), none⟩,
                ⟨some 23, Op.move (Operand.tmp 1), none⟩,
                ⟨some 24, Op.call { callee := Callee.value (Operand.func 28), args := #[Operand.tmp 22, Operand.tmp 23], argTypes := #[22, 3] }, none⟩,
                ⟨some 1, Op.assign (Operand.tmp 24), none⟩])
              (.seq
                (.region [28] false ([]) [
                  ⟨some 25, Op.fieldAddr 27 (Operand.tmp 2) 5, none⟩,
                  ⟨some 26, Op.load 22 (Operand.tmp 25), none⟩,
                  ⟨some 27, Op.move (Operand.tmp 1), none⟩,
                  ⟨some 28, Op.call { callee := Callee.value (Operand.func 28), args := #[Operand.tmp 26, Operand.tmp 27], argTypes := #[22, 3] }, none⟩,
                  ⟨some 1, Op.assign (Operand.tmp 28), none⟩])
                (.seq
                  (.region [32] false ([]) [
                    ⟨some 29, Op.fieldAddr 27 (Operand.tmp 2) 6, none⟩,
                    ⟨some 30, Op.load 22 (Operand.tmp 29), none⟩,
                    ⟨some 31, Op.move (Operand.tmp 1), none⟩,
                    ⟨some 32, Op.call { callee := Callee.value (Operand.func 28), args := #[Operand.tmp 30, Operand.tmp 31], argTypes := #[22, 3] }, none⟩,
                    ⟨some 1, Op.assign (Operand.tmp 32), none⟩])
                  (.seq
                    (.region [] false ([]) [
                      ⟨some 33, Op.move (Operand.tmp 1), none⟩,
                      ⟨some 4, Op.assign (Operand.tmp 33), none⟩])
                    .ret)))))))))
set_option maxHeartbeats 0 in
theorem markG (a b c d e f g : List Int) (k : Int) (h0 : 0 ≤ k) (h1 : k ≤ 100000000) (h : (a.length : Int) + b.length + c.length + d.length + e.length + f.length + g.length ≤ 1048576) :
    CallsFS Try.prog 27 [some 7, none] [.mrow 1 (intRow a), .mrow 1 (intRow b), .mrow 1 (intRow c), .mrow 1 (intRow d), .mrow 1 (intRow e), .mrow 1 (intRow f), .mrow 1 (intRow g), .val (.v (.int .i64 k))] (.t (.v (.int .i64 (k + a.length + b.length + c.length + d.length + e.length + f.length + g.length)))) [none, none, none, none, none, none, none] := by
  refine callsFS_of_wp2 (fn := Try.f27) (k := k27) (fun _ => []) mixed (by kernel_rfl) rfl (by kernel_rfl) (by kernel_rfl) (by kernel_rfl) rfl (by simp [Try.f27]) (by simp [Arg.like]) ?_
  generalize hst : St.enterS [some 7, none] [.mrow 1 (intRow a), .mrow 1 (intRow b), .mrow 1 (intRow c), .mrow 1 (intRow d), .mrow 1 (intRow e), .mrow 1 (intRow f), .mrow 1 (intRow g), .val (.v (.int .i64 k))] = st0
  have t0 : st0.tm 0 = .agg [.row (100000, 0) 1 0 (intRow a).length, .row (100001, 0) 1 0 (intRow b).length, .row (100002, 0) 1 0 (intRow c).length, .row (100003, 0) 1 0 (intRow d).length, .row (100004, 0) 1 0 (intRow e).length, .row (100005, 0) 1 0 (intRow f).length, .row (100006, 0) 1 0 (intRow g).length] := by rw [← hst]; rfl
  have t1 : st0.tm 1 = .t (.v (.int .i64 k)) := by rw [← hst]; rfl
  have o0 : st0.ob (100000, 0) = some (.row 1 (intRow a)) := by rw [← hst]; rfl
  have o1 : st0.ob (100001, 0) = some (.row 1 (intRow b)) := by rw [← hst]; rfl
  have o2 : st0.ob (100002, 0) = some (.row 1 (intRow c)) := by rw [← hst]; rfl
  have o3 : st0.ob (100003, 0) = some (.row 1 (intRow d)) := by rw [← hst]; rfl
  have o4 : st0.ob (100004, 0) = some (.row 1 (intRow e)) := by rw [← hst]; rfl
  have o5 : st0.ob (100005, 0) = some (.row 1 (intRow f)) := by rw [← hst]; rfl
  have o6 : st0.ob (100006, 0) = some (.row 1 (intRow g)) := by rw [← hst]; rfl
  clear hst
  unfold k27
  simp at t0
  repeat' (first
    | (refine wp2_seq fun K hK => ?_)
    | (refine wp1_seq fun K hK => ?_)
    | (refine M_cons fun K hK => ?_)
    | (refine hK _ ?_; clear hK K)
    | (clear hK K; refine hK _ ?_; clear hK K)
    | (clear hK K; clear hK K; refine hK _ ?_; clear hK K)
    | (clear hK K; clear hK K; clear hK K; refine hK _ ?_; clear hK K)
    | (refine hX _ ?_; clear hX hY X Y)
    | (refine hY _ ?_; clear hX hY X Y)
    | (refine wp2_block ?_)
    | (refine wp1_block ?_)
    | (refine wp2_region ?_)
    | (refine wp1_region ?_)
    | (refine wp2_cond fun X Y hX hY => ?_)
    | (refine wp1_cond fun X Y hX hY => ?_)
    | (refine condK_of (fun c => ?_) (fun c => ?_) <;> (try simp [-List.length_eq_zero_iff] at c))
    | (refine guard1_or (fun c => ?_) (fun c => ?_) <;> (have cc := c) <;> (try simp [-List.length_eq_zero_iff] at cc) <;> (try simp (disch := omega) [t0, t1, o0, o1, o2, o3, o4, o5, o6, c]))
    | (refine callT_gen true (markI a _ ?_ ?_ ?_) (fun _ => ⟨(by first | (simp [RV.flat, RV.flats, T.flat]; done) | ((repeat' first | exact flat_intRow _ | exact trivial | constructor | unfold RV.flat | unfold RV.flats); done)), (by (repeat' first | exact flat_intRow _ | exact trivial | constructor | unfold Arg.flats | unfold Arg.flat); done)⟩) (by simp [St.args, St.arg, t0, t1, o0, o1, o2, o3, o4, o5, o6] <;> first | rfl | ((repeat' first | rfl | apply And.intro); done)) (by simp [apartArgs, mutsOf, noRow, valsOf]) (by simp) ?_; omega; omega; omega)
    | (refine callT_gen true (markI b _ ?_ ?_ ?_) (fun _ => ⟨(by first | (simp [RV.flat, RV.flats, T.flat]; done) | ((repeat' first | exact flat_intRow _ | exact trivial | constructor | unfold RV.flat | unfold RV.flats); done)), (by (repeat' first | exact flat_intRow _ | exact trivial | constructor | unfold Arg.flats | unfold Arg.flat); done)⟩) (by simp [St.args, St.arg, t0, t1, o0, o1, o2, o3, o4, o5, o6] <;> first | rfl | ((repeat' first | rfl | apply And.intro); done)) (by simp [apartArgs, mutsOf, noRow, valsOf]) (by simp) ?_; omega; omega; omega)
    | (refine callT_gen true (markI c _ ?_ ?_ ?_) (fun _ => ⟨(by first | (simp [RV.flat, RV.flats, T.flat]; done) | ((repeat' first | exact flat_intRow _ | exact trivial | constructor | unfold RV.flat | unfold RV.flats); done)), (by (repeat' first | exact flat_intRow _ | exact trivial | constructor | unfold Arg.flats | unfold Arg.flat); done)⟩) (by simp [St.args, St.arg, t0, t1, o0, o1, o2, o3, o4, o5, o6] <;> first | rfl | ((repeat' first | rfl | apply And.intro); done)) (by simp [apartArgs, mutsOf, noRow, valsOf]) (by simp) ?_; omega; omega; omega)
    | (refine callT_gen true (markI d _ ?_ ?_ ?_) (fun _ => ⟨(by first | (simp [RV.flat, RV.flats, T.flat]; done) | ((repeat' first | exact flat_intRow _ | exact trivial | constructor | unfold RV.flat | unfold RV.flats); done)), (by (repeat' first | exact flat_intRow _ | exact trivial | constructor | unfold Arg.flats | unfold Arg.flat); done)⟩) (by simp [St.args, St.arg, t0, t1, o0, o1, o2, o3, o4, o5, o6] <;> first | rfl | ((repeat' first | rfl | apply And.intro); done)) (by simp [apartArgs, mutsOf, noRow, valsOf]) (by simp) ?_; omega; omega; omega)
    | (refine callT_gen true (markI e _ ?_ ?_ ?_) (fun _ => ⟨(by first | (simp [RV.flat, RV.flats, T.flat]; done) | ((repeat' first | exact flat_intRow _ | exact trivial | constructor | unfold RV.flat | unfold RV.flats); done)), (by (repeat' first | exact flat_intRow _ | exact trivial | constructor | unfold Arg.flats | unfold Arg.flat); done)⟩) (by simp [St.args, St.arg, t0, t1, o0, o1, o2, o3, o4, o5, o6] <;> first | rfl | ((repeat' first | rfl | apply And.intro); done)) (by simp [apartArgs, mutsOf, noRow, valsOf]) (by simp) ?_; omega; omega; omega)
    | (refine callT_gen true (markI f _ ?_ ?_ ?_) (fun _ => ⟨(by first | (simp [RV.flat, RV.flats, T.flat]; done) | ((repeat' first | exact flat_intRow _ | exact trivial | constructor | unfold RV.flat | unfold RV.flats); done)), (by (repeat' first | exact flat_intRow _ | exact trivial | constructor | unfold Arg.flats | unfold Arg.flat); done)⟩) (by simp [St.args, St.arg, t0, t1, o0, o1, o2, o3, o4, o5, o6] <;> first | rfl | ((repeat' first | rfl | apply And.intro); done)) (by simp [apartArgs, mutsOf, noRow, valsOf]) (by simp) ?_; omega; omega; omega)
    | (refine callT_gen true (markI g _ ?_ ?_ ?_) (fun _ => ⟨(by first | (simp [RV.flat, RV.flats, T.flat]; done) | ((repeat' first | exact flat_intRow _ | exact trivial | constructor | unfold RV.flat | unfold RV.flats); done)), (by (repeat' first | exact flat_intRow _ | exact trivial | constructor | unfold Arg.flats | unfold Arg.flat); done)⟩) (by simp [St.args, St.arg, t0, t1, o0, o1, o2, o3, o4, o5, o6] <;> first | rfl | ((repeat' first | rfl | apply And.intro); done)) (by simp [apartArgs, mutsOf, noRow, valsOf]) (by simp) ?_; omega; omega; omega)
    | (simp (disch := omega) [t0, t1, o0, o1, o2, o3, o4, o5, o6]))
  all_goals try (simp [t0, t1, o0, o1, o2, o3, o4, o5, o6, Back]; done)
end Cal
