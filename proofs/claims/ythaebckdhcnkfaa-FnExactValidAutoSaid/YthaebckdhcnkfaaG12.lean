/- A part of the proof: a calculus of our own over the model's code, and contracts of the program's functions. -/
import Derived.Test.YthaebckdhcnkfaaG10
import Derived.Test.YthaebckdhcnkfaaG11
set_option linter.unusedSimpArgs false
set_option linter.unusedVariables false
namespace Cal
open Go Go.Proofs Auto AC
set_option maxRecDepth 100000
/-- The code of laws.szBoolS. -/
def k44 : Code1 :=
  (.seq
    (.region [] false ([]) [
      ⟨some 4, Op.assign (Operand.const (Value.int IntKind.i64 0)), none⟩])
    (.seq
      (.region [] false ([]) [
        ⟨some 5, Op.move (Operand.tmp 1), none⟩,
        ⟨some 6, Op.move (Operand.tmp 0), none⟩,
        ⟨some 7, Op.call { callee := Callee.builtin Builtin.len, args := #[Operand.tmp 6], argTypes := #[31] }, none⟩,
        ⟨some 8, Op.binOp BinOp.sub 3 (Operand.tmp 5) (Operand.tmp 7) 3, none⟩,
        ⟨some 1, Op.assign (Operand.tmp 8), none⟩])
      (.seq
        (.seq
          (.region [] false ([]) [
            ⟨some 9, Op.move (Operand.tmp 1), none⟩,
            ⟨some 10, Op.binOp BinOp.lss 3 (Operand.tmp 9) (Operand.const (Value.int IntKind.i64 0)) 3, none⟩])
          (.cond (Operand.tmp 10)
            (.seq
              (.region [] false ([]) [
                ⟨some 4, Op.assign (Operand.const (Value.int IntKind.i64 (-1))), none⟩])
              .ret)
            .skip))
        (.seq
          (.region [] false ([]) [
            ⟨some 11, Op.move (Operand.tmp 1), none⟩,
            ⟨some 4, Op.assign (Operand.tmp 11), none⟩])
          .ret))))
theorem szB_ok (l : List Bool) (left : Int) (hl : l.length ≤ left) (h1 : 0 ≤ left) (h2 : left < 1152921504606846976) :
    CallsF Try.prog 44 [.val (bools l), .val (.v (.int .i64 left))] (.t (.v (.int .i64 (left - l.length)))) [] := by
  refine callsF_of_wp1 (fn := Try.f44) (k := k44) (fun _ => []) mixed (by kernel_rfl) rfl (by kernel_rfl) (by kernel_rfl) (by kernel_rfl) rfl (by simp [Try.f44]) (by simp [Arg.like]) ?_
  generalize hst : St.enter [.val (bools l), .val (.v (.int .i64 left))] = st0
  have t0 : st0.tm 0 = .t (bools l) := by rw [← hst]; rfl
  have t1 : st0.tm 1 = .t (.v (.int .i64 left)) := by rw [← hst]; rfl
  clear hst
  unfold k44
  repeat' (first
    | (refine wp2_seq fun K hK => ?_)
    | (refine wp1_seq fun K hK => ?_)
    | (refine M_cons fun K hK => ?_)
    | (refine hK _ ?_; clear hK K)
    | (clear hK K; refine hK _ ?_; clear hK K)
    | (clear hK K; clear hK K; refine hK _ ?_; clear hK K)
    | (clear hK K; clear hK K; clear hK K; refine hK _ ?_; clear hK K)
    | (refine hX _ ?_; clear hX hY X Y)
    | (refine hY _ ?_; clear hX hY X Y)
    | (refine wp2_block ?_)
    | (refine wp1_block ?_)
    | (refine wp2_region ?_)
    | (refine wp1_region ?_)
    | (refine wp2_cond fun X Y hX hY => ?_)
    | (refine wp1_cond fun X Y hX hY => ?_)
    | (refine condK_of (fun c => ?_) (fun c => ?_) <;> (try simp [-List.length_eq_zero_iff] at c))
    | (refine guard1_or (fun c => ?_) (fun c => ?_) <;> (have cc := c) <;> (try simp [-List.length_eq_zero_iff] at cc) <;> (try simp (disch := omega) [t0, t1, c]))
    | (simp (disch := omega) [t0, t1]))
  all_goals try (simp [t0, t1, Back]; done)
  · omega
theorem szB_no (l : List Bool) (left : Int) (hl : left < l.length) (h1 : 0 ≤ left) (h2 : l.length ≤ 9223372036854775807) :
    CallsF Try.prog 44 [.val (bools l), .val (.v (.int .i64 left))] (.t (.v (.int .i64 (-1)))) [] := by
  refine callsF_of_wp1 (fn := Try.f44) (k := k44) (fun _ => []) mixed (by kernel_rfl) rfl (by kernel_rfl) (by kernel_rfl) (by kernel_rfl) rfl (by simp [Try.f44]) (by simp [Arg.like]) ?_
  generalize hst : St.enter [.val (bools l), .val (.v (.int .i64 left))] = st0
  have t0 : st0.tm 0 = .t (bools l) := by rw [← hst]; rfl
  have t1 : st0.tm 1 = .t (.v (.int .i64 left)) := by rw [← hst]; rfl
  clear hst
  unfold k44
  repeat' (first
    | (refine wp2_seq fun K hK => ?_)
    | (refine wp1_seq fun K hK => ?_)
    | (refine M_cons fun K hK => ?_)
    | (refine hK _ ?_; clear hK K)
    | (clear hK K; refine hK _ ?_; clear hK K)
    | (clear hK K; clear hK K; refine hK _ ?_; clear hK K)
    | (clear hK K; clear hK K; clear hK K; refine hK _ ?_; clear hK K)
    | (refine hX _ ?_; clear hX hY X Y)
    | (refine hY _ ?_; clear hX hY X Y)
    | (refine wp2_block ?_)
    | (refine wp1_block ?_)
    | (refine wp2_region ?_)
    | (refine wp1_region ?_)
    | (refine wp2_cond fun X Y hX hY => ?_)
    | (refine wp1_cond fun X Y hX hY => ?_)
    | (refine condK_of (fun c => ?_) (fun c => ?_) <;> (try simp [-List.length_eq_zero_iff] at c))
    | (refine guard1_or (fun c => ?_) (fun c => ?_) <;> (have cc := c) <;> (try simp [-List.length_eq_zero_iff] at cc) <;> (try simp (disch := omega) [t0, t1, c]))
    | (simp (disch := omega) [t0, t1]))
  all_goals try (simp [t0, t1, Back]; done)
  · omega
/-- The code of laws.toBoolS. -/
def k47 : Code1 :=
  (.seq
    (.region [] false ([]) [
      ⟨some 2, Op.assign (Operand.const (Value.slice none 0 0)), none⟩])
    (.seq
      (.region [7] false ([]) [
        ⟨some 5, Op.move (Operand.tmp 0), none⟩,
        ⟨some 6, Op.call { callee := Callee.builtin Builtin.len, args := #[Operand.tmp 5], argTypes := #[31] }, none⟩,
        ⟨some 7, Op.makeSlice 31 (Operand.tmp 6) (Operand.tmp 6), none⟩,
        ⟨some 3, Op.assign (Operand.tmp 7), none⟩])
      (.seq
        (.seq
          (.region [] false ([]) [
            ⟨some 4, Op.assign (Operand.const (Value.int IntKind.i64 0)), none⟩])
          (.block 0
            (.loop
              (.seq
                (.seq
                  (.region [] false ([]) [
                    ⟨some 8, Op.move (Operand.tmp 4), none⟩,
                    ⟨some 9, Op.move (Operand.tmp 0), none⟩,
                    ⟨some 10, Op.call { callee := Callee.builtin Builtin.len, args := #[Operand.tmp 9], argTypes := #[31] }, none⟩,
                    ⟨some 11, Op.binOp BinOp.lss 3 (Operand.tmp 8) (Operand.tmp 10) 3, none⟩])
                  (.cond (Operand.tmp 11)
                    .skip
                    (.exit 0)))
                (.seq
                  (.block 1
                    (.region [] false ([]) [
                      ⟨some 14, Op.move (Operand.tmp 3), none⟩,
                      ⟨some 15, Op.move (Operand.tmp 4), none⟩,
                      ⟨some 16, Op.move (Operand.tmp 0), none⟩,
                      ⟨some 17, Op.move (Operand.tmp 4), none⟩,
                      ⟨some 18, Op.indexAddr 31 (Operand.tmp 16) (Operand.tmp 17), none⟩,
                      ⟨some 19, Op.load 4 (Operand.tmp 18), none⟩,
                      ⟨some 20, Op.indexAddr 31 (Operand.tmp 14) (Operand.tmp 15), none⟩,
                      ⟨none, Op.store 4 (Operand.tmp 20) (Operand.tmp 19), none⟩]))
                  (.region [] false ([]) [
                    ⟨some 12, Op.move (Operand.tmp 4), none⟩,
                    ⟨some 13, Op.binOp BinOp.add 3 (Operand.tmp 12) (Operand.const (Value.int IntKind.i64 1)) 3, none⟩,
                    ⟨some 4, Op.assign (Operand.tmp 13), none⟩]))))))
        (.seq
          (.region [] false ([]) [
            ⟨some 21, Op.move (Operand.tmp 3), none⟩,
            ⟨some 2, Op.assign (Operand.tmp 21), none⟩])
          .ret))))
theorem toB (l : List Bool) (hl : l.length ≤ 1048576) :
    CallsF Try.prog 47 [.val (bools l)] (.own 1 (boolRow l)) [] := by
  refine callsF_of_wp1 (fn := Try.f47) (k := k47) (fun _ => []) mixed (by kernel_rfl) rfl (by kernel_rfl) (by kernel_rfl) (by kernel_rfl) rfl (by simp [Try.f47]) (by simp [Arg.like]) ?_
  generalize hst : St.enter [.val (bools l)] = st0
  have t0 : st0.tm 0 = .t (bools l) := by rw [← hst]; rfl
  clear hst
  unfold k47
  repeat' (first
    | (refine wp2_seq fun K hK => ?_)
    | (refine wp1_seq fun K hK => ?_)
    | (refine M_cons fun K hK => ?_)
    | (refine hK _ ?_; clear hK K)
    | (clear hK K; refine hK _ ?_; clear hK K)
    | (clear hK K; clear hK K; refine hK _ ?_; clear hK K)
    | (clear hK K; clear hK K; clear hK K; refine hK _ ?_; clear hK K)
    | (refine hX _ ?_; clear hX hY X Y)
    | (refine hY _ ?_; clear hX hY X Y)
    | (refine wp2_block ?_)
    | (refine wp1_block ?_)
    | (refine wp2_region ?_)
    | (refine wp1_region ?_)
    | (refine wp2_cond fun X Y hX hY => ?_)
    | (refine wp1_cond fun X Y hX hY => ?_)
    | (refine condK_of (fun c => ?_) (fun c => ?_) <;> (try simp [-List.length_eq_zero_iff] at c))
    | (refine guard1_or (fun c => ?_) (fun c => ?_) <;> (have cc := c) <;> (try simp [-List.length_eq_zero_iff] at cc) <;> (try simp (disch := omega) [t0, c]))
    | (simp (disch := omega) [t0]))
  all_goals try (simp [t0, Back]; done)
  have hJ : ∀ s : St, s.tm 3 = .row (7, 0) 1 0 l.length → s.ob (7, 0) = some (.row 1 (boolRow l)) → K s := by
    intro s s3 o
    repeat' (first
      | (refine wp2_seq fun K hK => ?_)
      | (refine wp1_seq fun K hK => ?_)
      | (refine M_cons fun K hK => ?_)
      | (refine hK _ ?_; clear hK K)
      | (clear hK K; refine hK _ ?_; clear hK K)
      | (clear hK K; clear hK K; refine hK _ ?_; clear hK K)
      | (clear hK K; clear hK K; clear hK K; refine hK _ ?_; clear hK K)
      | (refine hX _ ?_; clear hX hY X Y)
      | (refine hY _ ?_; clear hX hY X Y)
      | (refine wp2_block ?_)
      | (refine wp1_block ?_)
      | (refine wp2_region ?_)
      | (refine wp1_region ?_)
      | (refine wp2_cond fun X Y hX hY => ?_)
      | (refine wp1_cond fun X Y hX hY => ?_)
      | (refine condK_of (fun c => ?_) (fun c => ?_) <;> (try simp [-List.length_eq_zero_iff] at c))
      | (refine guard1_or (fun c => ?_) (fun c => ?_) <;> (have cc := c) <;> (try simp [-List.length_eq_zero_iff] at cc) <;> (try simp (disch := omega) [s3, o, c]))
      | (simp (disch := omega) [s3, o]))
    all_goals try (simp [s3, o, Back]; done)
  clear hK
  refine wp1_loop (fun n s => ∃ (k : Nat) (xs : List Bool), s.tm 0 = .t (bools l) ∧ s.tm 3 = .row (7, 0) 1 0 l.length ∧ s.tm 4 = .t (.v (.int .i64 k)) ∧ s.ob (7, 0) = some (.row 1 (boolRow xs)) ∧ xs.length = l.length ∧ k ≤ l.length ∧ n = l.length - k ∧ ∀ i < k, rdb xs i = rdb l i) l.length ?_ ?_
  · refine ⟨0, List.replicate l.length false, ?_⟩
    simp [t0]
  · rintro n s ⟨k, xs, s0, s3, s4, o, hc, hk, rfl, heq⟩ K' hK'
    repeat' (first
      | (refine wp2_seq fun K hK => ?_)
      | (refine wp1_seq fun K hK => ?_)
      | (refine M_cons fun K hK => ?_)
      | (refine hK _ ?_; clear hK K)
      | (clear hK K; refine hK _ ?_; clear hK K)
      | (clear hK K; clear hK K; refine hK _ ?_; clear hK K)
      | (clear hK K; clear hK K; clear hK K; refine hK _ ?_; clear hK K)
      | (refine hX _ ?_; clear hX hY X Y)
      | (refine hY _ ?_; clear hX hY X Y)
      | (refine wp2_block ?_)
      | (refine wp1_block ?_)
      | (refine wp2_region ?_)
      | (refine wp1_region ?_)
      | (refine wp2_cond fun X Y hX hY => ?_)
      | (refine wp1_cond fun X Y hX hY => ?_)
      | (refine condK_of (fun c => ?_) (fun c => ?_) <;> (try simp [-List.length_eq_zero_iff] at c))
      | (refine guard1_or (fun c => ?_) (fun c => ?_) <;> (have cc := c) <;> (try simp [-List.length_eq_zero_iff] at cc) <;> (try simp (disch := omega) [s0, s3, s4, o, hc, c]))
      | (simp (disch := omega) [s0, s3, s4, o, hc]))
    all_goals try (simp [s0, s3, s4, o, hc, Back]; done)
    · refine hK' (l.length - (k + 1)) _ (by omega) ⟨k + 1, xs.set k (rdb l k), ?_⟩
      simp [s0, s3, s4, hc]
      exact ⟨by omega, below_succ (p := fun i : Nat => rdb (xs.set k (rdb l k)) i = rdb l i) (fun i hi => by rw [rdb_set_ne (by omega)]; exact heq i hi) (rdb_set_eq (by omega))⟩
    · refine hJ _ (by simp [s3]) ?_
      simp [o]
      rw [eq_of_rdb hc fun i hi => heq i (by omega)]
/-- The code of laws.eqBoolS. -/
def k50 : Code1 :=
  (.seq
    (.region [] false ([]) [
      ⟨some 4, Op.assign (Operand.const (Value.bool false)), none⟩])
    (.seq
      (.seq
        (.region [] false ([]) [
          ⟨some 6, Op.move (Operand.tmp 0), none⟩,
          ⟨some 7, Op.call { callee := Callee.builtin Builtin.len, args := #[Operand.tmp 6], argTypes := #[31] }, none⟩,
          ⟨some 8, Op.move (Operand.tmp 1), none⟩,
          ⟨some 9, Op.call { callee := Callee.builtin Builtin.len, args := #[Operand.tmp 8], argTypes := #[31] }, none⟩,
          ⟨some 10, Op.binOp BinOp.neq 3 (Operand.tmp 7) (Operand.tmp 9) 3, none⟩])
        (.cond (Operand.tmp 10)
          (.seq
            (.region [] false ([]) [
              ⟨some 4, Op.assign (Operand.const (Value.bool false)), none⟩])
            .ret)
          .skip))
      (.seq
        (.seq
          (.region [] false ([]) [
            ⟨some 5, Op.assign (Operand.const (Value.int IntKind.i64 0)), none⟩])
          (.block 0
            (.loop
              (.seq
                (.seq
                  (.region [] false ([]) [
                    ⟨some 11, Op.move (Operand.tmp 5), none⟩,
                    ⟨some 12, Op.move (Operand.tmp 0), none⟩,
                    ⟨some 13, Op.call { callee := Callee.builtin Builtin.len, args := #[Operand.tmp 12], argTypes := #[31] }, none⟩,
                    ⟨some 14, Op.binOp BinOp.lss 3 (Operand.tmp 11) (Operand.tmp 13) 3, none⟩])
                  (.cond (Operand.tmp 14)
                    .skip
                    (.exit 0)))
                (.seq
                  (.block 1
                    (.seq
                      (.region [] true ([]) [
                        ⟨some 17, Op.move (Operand.tmp 0), none⟩,
                        ⟨some 18, Op.move (Operand.tmp 5), none⟩,
                        ⟨some 19, Op.indexAddr 31 (Operand.tmp 17) (Operand.tmp 18), none⟩,
                        ⟨some 20, Op.load 4 (Operand.tmp 19), none⟩,
                        ⟨some 21, Op.move (Operand.tmp 1), none⟩,
                        ⟨some 22, Op.move (Operand.tmp 5), none⟩,
                        ⟨some 23, Op.indexAddr 31 (Operand.tmp 21) (Operand.tmp 22), none⟩,
                        ⟨some 24, Op.load 4 (Operand.tmp 23), none⟩,
                        ⟨some 25, Op.binOp BinOp.neq 4 (Operand.tmp 20) (Operand.tmp 24) 4, none⟩])
                      (.cond (Operand.tmp 25)
                        (.seq
                          (.region [] false ([]) [
                            ⟨some 4, Op.assign (Operand.const (Value.bool false)), none⟩])
                          .ret)
                        .skip)))
                  (.region [] false ([]) [
                    ⟨some 15, Op.move (Operand.tmp 5), none⟩,
                    ⟨some 16, Op.binOp BinOp.add 3 (Operand.tmp 15) (Operand.const (Value.int IntKind.i64 1)) 3, none⟩,
                    ⟨some 5, Op.assign (Operand.tmp 16), none⟩]))))))
        (.seq
          (.region [] false ([]) [
            ⟨some 4, Op.assign (Operand.const (Value.bool true)), none⟩])
          .ret))))
theorem eqB (a b : List Bool) (ha : a.length ≤ 1048576) (hb : b.length ≤ 1048576) :
    CallsF Try.prog 50 [.val (bools a), .val (bools b)] (.t (.v (.bool (decide (a = b))))) [] := by
  refine callsF_of_wp1 (fn := Try.f50) (k := k50) (fun _ => []) mixed (by kernel_rfl) rfl (by kernel_rfl) (by kernel_rfl) (by kernel_rfl) rfl (by simp [Try.f50]) (by simp [Arg.like]) ?_
  generalize hst : St.enter [.val (bools a), .val (bools b)] = st0
  have t0 : st0.tm 0 = .t (bools a) := by rw [← hst]; rfl
  have t1 : st0.tm 1 = .t (bools b) := by rw [← hst]; rfl
  clear hst
  unfold k50
  repeat' (first
    | (refine wp2_seq fun K hK => ?_)
    | (refine wp1_seq fun K hK => ?_)
    | (refine M_cons fun K hK => ?_)
    | (refine hK _ ?_; clear hK K)
    | (clear hK K; refine hK _ ?_; clear hK K)
    | (clear hK K; clear hK K; refine hK _ ?_; clear hK K)
    | (clear hK K; clear hK K; clear hK K; refine hK _ ?_; clear hK K)
    | (refine hX _ ?_; clear hX hY X Y)
    | (refine hY _ ?_; clear hX hY X Y)
    | (refine wp2_block ?_)
    | (refine wp1_block ?_)
    | (refine wp2_region ?_)
    | (refine wp1_region ?_)
    | (refine wp2_cond fun X Y hX hY => ?_)
    | (refine wp1_cond fun X Y hX hY => ?_)
    | (refine condK_of (fun c => ?_) (fun c => ?_) <;> (try simp [-List.length_eq_zero_iff] at c))
    | (refine guard1_or (fun c => ?_) (fun c => ?_) <;> (have cc := c) <;> (try simp [-List.length_eq_zero_iff] at cc) <;> (try simp (disch := omega) [t0, t1, c]))
    | (simp (disch := omega) [t0, t1]))
  all_goals try (simp [t0, t1, Back]; done)
  · have : ¬ a = b := fun e => c (by rw [e])
    simp [Back, this]
  have hJ : a = b → ∀ s, K s := by
    rintro rfl s
    repeat' (first
      | (refine wp2_seq fun K hK => ?_)
      | (refine wp1_seq fun K hK => ?_)
      | (refine M_cons fun K hK => ?_)
      | (refine hK _ ?_; clear hK K)
      | (clear hK K; refine hK _ ?_; clear hK K)
      | (clear hK K; clear hK K; refine hK _ ?_; clear hK K)
      | (clear hK K; clear hK K; clear hK K; refine hK _ ?_; clear hK K)
      | (refine hX _ ?_; clear hX hY X Y)
      | (refine hY _ ?_; clear hX hY X Y)
      | (refine wp2_block ?_)
      | (refine wp1_block ?_)
      | (refine wp2_region ?_)
      | (refine wp1_region ?_)
      | (refine wp2_cond fun X Y hX hY => ?_)
      | (refine wp1_cond fun X Y hX hY => ?_)
      | (refine condK_of (fun c => ?_) (fun c => ?_) <;> (try simp [-List.length_eq_zero_iff] at c))
      | (refine guard1_or (fun c => ?_) (fun c => ?_) <;> (have cc := c) <;> (try simp [-List.length_eq_zero_iff] at cc) <;> (try simp (disch := omega) [c]))
      | (simp (disch := omega) []))
    all_goals try (simp [Back]; done)
  clear hK
  refine wp1_loop (fun n s => ∃ k : Nat, s.tm 0 = .t (bools a) ∧ s.tm 1 = .t (bools b) ∧ s.tm 5 = .t (.v (.int .i64 k)) ∧ k ≤ a.length ∧ n = a.length - k ∧ ∀ i < k, rdb a i = rdb b i) a.length ?_ ?_
  · exact ⟨0, by simp [t0, t1]⟩
  · rintro n s ⟨k, s0, s1, s5, hk, rfl, heq⟩ K' hK'
    repeat' (first
      | (refine wp2_seq fun K hK => ?_)
      | (refine wp1_seq fun K hK => ?_)
      | (refine M_cons fun K hK => ?_)
      | (refine hK _ ?_; clear hK K)
      | (clear hK K; refine hK _ ?_; clear hK K)
      | (clear hK K; clear hK K; refine hK _ ?_; clear hK K)
      | (clear hK K; clear hK K; clear hK K; refine hK _ ?_; clear hK K)
      | (refine hX _ ?_; clear hX hY X Y)
      | (refine hY _ ?_; clear hX hY X Y)
      | (refine wp2_block ?_)
      | (refine wp1_block ?_)
      | (refine wp2_region ?_)
      | (refine wp1_region ?_)
      | (refine wp2_cond fun X Y hX hY => ?_)
      | (refine wp1_cond fun X Y hX hY => ?_)
      | (refine condK_of (fun c => ?_) (fun c => ?_) <;> (try simp [-List.length_eq_zero_iff] at c))
      | (refine guard1_or (fun c => ?_) (fun c => ?_) <;> (have cc := c) <;> (try simp [-List.length_eq_zero_iff] at cc) <;> (try simp (disch := omega) [s0, s1, s5, c]))
      | (simp (disch := omega) [s0, s1, s5]))
    all_goals try (simp [s0, s1, s5, Back]; done)
    · have : ¬ a = b := fun e => c (by rw [e])
      simp [Back, this]
    · refine hK' (a.length - (k + 1)) _ (by omega) ⟨k + 1, ?_⟩
      simp [s0, s1, s5]
      exact ⟨by omega, below_succ heq c⟩
    · exact hJ (eq_of_rdb (by omega) fun i hi => heq i (by omega)) _
end Cal

set_option linter.unusedSimpArgs false
set_option linter.unusedVariables false
namespace Cal
open Go Go.Proofs Auto AC
set_option maxRecDepth 100000
theorem flat_boolRow (l : List Bool) : ∀ e ∈ boolRow l, ∀ x ∈ e, T.flat x := by
  intro e he x hx
  simp only [boolRow, List.mem_map] at he
  obtain ⟨b, _, rfl⟩ := he
  simp at hx
  subst hx
  trivial
def smallA (a : Au) : Prop := a.parent.length ≤ 9223372036854775807 ∧ a.last.length ≤ 9223372036854775807 ∧ a.fail.length ≤ 9223372036854775807 ∧ a.must.length ≤ 9223372036854775807 ∧ a.bad.length ≤ 9223372036854775807
def sumA (a : Au) : Int := a.parent.length + a.last.length + a.fail.length + a.must.length + a.bad.length
/-- The code of laws.szAuto. -/
def k16 : Code1 :=
  (.seq
    (.region [2] false ([]) [
      ⟨some 2, Op.box 33 (Operand.tmp 0), none⟩,
      ⟨some 4, Op.assign (Operand.const (Value.int IntKind.i64 0)), none⟩])
    (.seq
      (.region [8] false ([]) [
        ⟨some 5, Op.fieldAddr 33 (Operand.tmp 2) 0, none⟩,
        ⟨some 6, Op.load 22 (Operand.tmp 5), none⟩,
        ⟨some 7, Op.move (Operand.tmp 1), none⟩,
        ⟨some 8, Op.call { callee := Callee.value (Operand.func 41), args := #[Operand.tmp 6, Operand.tmp 7], argTypes := #[22, 3] }, none⟩,
        ⟨some 1, Op.assign (Operand.tmp 8), none⟩])
      (.seq
        (.seq
          (.region [] false ([]) [
            ⟨some 9, Op.move (Operand.tmp 1), none⟩,
            ⟨some 10, Op.binOp BinOp.lss 3 (Operand.tmp 9) (Operand.const (Value.int IntKind.i64 0)) 3, none⟩])
          (.cond (Operand.tmp 10)
            (.seq
              (.region [] false ([]) [
                ⟨some 4, Op.assign (Operand.const (Value.int IntKind.i64 (-1))), none⟩])
              .ret)
            .skip))
        (.seq
          (.region [14] false ([]) [
            ⟨some 11, Op.fieldAddr 33 (Operand.tmp 2) 1, none⟩,
            ⟨some 12, Op.load 22 (Operand.tmp 11), none⟩,
            ⟨some 13, Op.move (Operand.tmp 1), none⟩,
            ⟨some 14, Op.call { callee := Callee.value (Operand.func 41), args := #[Operand.tmp 12, Operand.tmp 13], argTypes := #[22, 3] }, none⟩,
            ⟨some 1, Op.assign (Operand.tmp 14), none⟩])
          (.seq
            (.seq
              (.region [] false ([]) [
                ⟨some 15, Op.move (Operand.tmp 1), none⟩,
                ⟨some 16, Op.binOp BinOp.lss 3 (Operand.tmp 15) (Operand.const (Value.int IntKind.i64 0)) 3, none⟩])
              (.cond (Operand.tmp 16)
                (.seq
                  (.region [] false ([]) [
                    ⟨some 4, Op.assign (Operand.const (Value.int IntKind.i64 (-1))), none⟩])
                  .ret)
                .skip))
            (.seq
              (.region [20] false ([]) [
                ⟨some 17, Op.fieldAddr 33 (Operand.tmp 2) 2, none⟩,
                ⟨some 18, Op.load 22 (Operand.tmp 17), none⟩,
                ⟨some 19, Op.move (Operand.tmp 1), none⟩,
                ⟨some 20, Op.call { callee := Callee.value (Operand.func 41), args := #[Operand.tmp 18, Operand.tmp 19], argTypes := #[22, 3] }, none⟩,
                ⟨some 1, Op.assign (Operand.tmp 20), none⟩])
              (.seq
                (.seq
                  (.region [] false ([]) [
                    ⟨some 21, Op.move (Operand.tmp 1), none⟩,
                    ⟨some 22, Op.binOp BinOp.lss 3 (Operand.tmp 21) (Operand.const (Value.int IntKind.i64 0)) 3, none⟩])
                  (.cond (Operand.tmp 22)
                    (.seq
                      (.region [] false ([]) [
                        ⟨some 4, Op.assign (Operand.const (Value.int IntKind.i64 (-1))), none⟩])
                      .ret)
                    .skip))
                (.seq
                  (.region [26] false ([]) [
                    ⟨some 23, Op.fieldAddr 33 (Operand.tmp 2) 3, none⟩,
                    ⟨some 24, Op.load 22 (Operand.tmp 23), none⟩,
                    ⟨some 25, Op.move (Operand.tmp 1), none⟩,
                    ⟨some 26, Op.call { callee := Callee.value (Operand.func 41), args := #[Operand.tmp 24, Operand.tmp 25], argTypes := #[22, 3] }, none⟩,
                    ⟨some 1, Op.assign (Operand.tmp 26), none⟩])
                  (.seq
                    (.seq
                      (.region [] false ([]) [
                        ⟨some 27, Op.move (Operand.tmp 1), none⟩,
                        ⟨some 28, Op.binOp BinOp.lss 3 (Operand.tmp 27) (Operand.const (Value.int IntKind.i64 0)) 3, none⟩])
                      (.cond (Operand.tmp 28)
                        (.seq
                          (.region [] false ([]) [
                            ⟨some 4, Op.assign (Operand.const (Value.int IntKind.i64 (-1))), none⟩])
                          .ret)
                        .skip))
                    (.seq
                      (.region [32] false ([]) [
                        ⟨some 29, Op.fieldAddr 33 (Operand.tmp 2) 4, none⟩,
                        ⟨some 30, Op.load 31 (Operand.tmp 29), none⟩,
                        ⟨some 31, Op.move (Operand.tmp 1), none⟩,
                        ⟨some 32, Op.call { callee := Callee.value (Operand.func 44), args := #[Operand.tmp 30, Operand.tmp 31], argTypes := #[31, 3] }, none⟩,
                        ⟨some 1, Op.assign (Operand.tmp 32), none⟩])
                      (.seq
                        (.seq
                          (.region [] false ([]) [
                            ⟨some 33, Op.move (Operand.tmp 1), none⟩,
                            ⟨some 34, Op.binOp BinOp.lss 3 (Operand.tmp 33) (Operand.const (Value.int IntKind.i64 0)) 3, none⟩])
                          (.cond (Operand.tmp 34)
                            (.seq
                              (.region [] false ([]) [
                                ⟨some 4, Op.assign (Operand.const (Value.int IntKind.i64 (-1))), none⟩])
                              .ret)
                            .skip))
                        (.seq
                          (.region [] false ([]) [
                            ⟨some 35, Op.move (Operand.tmp 1), none⟩,
                            ⟨some 4, Op.assign (Operand.tmp 35), none⟩])
                          .ret))))))))))))
set_option maxHeartbeats 0 in
theorem szA (a : Au) (left : Int) (hg : smallA a) (h1 : 0 ≤ left) (h2 : left < 1152921504606846976) :
    CallsF Try.prog 16 [.agg (encAu a), .val (.v (.int .i64 left))] (.t (.v (.int .i64 (if left < sumA a then -1 else left - sumA a)))) [] := by
  obtain ⟨g1, g2, g3, g4, g5⟩ := hg
  refine callsF_of_wp1 (fn := Try.f16) (k := k16) (fun _ => []) mixed (by kernel_rfl) rfl (by kernel_rfl) (by kernel_rfl) (by kernel_rfl) rfl (by simp [Try.f16]) (by simp [Arg.like]) ?_
  generalize hst : St.enter [.agg (encAu a), .val (.v (.int .i64 left))] = st0
  have t0 : st0.tm 0 = .agg ((encAu a) |>.map .t) := by rw [← hst]; rfl
  have t1 : st0.tm 1 = .t (.v (.int .i64 left)) := by rw [← hst]; rfl
  clear hst
  unfold k16
  simp [encAu] at t0
  have hd : ((0 : Int) ≤ left ∧ left < (0 : Int) + a.parent.length) ∨ ((0 : Int) + a.parent.length ≤ left ∧ left < (0 : Int) + a.parent.length + a.last.length) ∨ ((0 : Int) + a.parent.length + a.last.length ≤ left ∧ left < (0 : Int) + a.parent.length + a.last.length + a.fail.length) ∨ ((0 : Int) + a.parent.length + a.last.length + a.fail.length ≤ left ∧ left < (0 : Int) + a.parent.length + a.last.length + a.fail.length + a.must.length) ∨ ((0 : Int) + a.parent.length + a.last.length + a.fail.length + a.must.length ≤ left ∧ left < (0 : Int) + a.parent.length + a.last.length + a.fail.length + a.must.length + a.bad.length) ∨ ((0 : Int) + a.parent.length + a.last.length + a.fail.length + a.must.length + a.bad.length ≤ left) := by omega
  rcases hd with e | e | e | e | e | e
  all_goals
    repeat' (first
      | (refine wp2_seq fun K hK => ?_)
      | (refine wp1_seq fun K hK => ?_)
      | (refine M_cons fun K hK => ?_)
      | (refine hK _ ?_; clear hK K)
      | (clear hK K; refine hK _ ?_; clear hK K)
      | (clear hK K; clear hK K; refine hK _ ?_; clear hK K)
      | (clear hK K; clear hK K; clear hK K; refine hK _ ?_; clear hK K)
      | (refine hX _ ?_; clear hX hY X Y)
      | (refine hY _ ?_; clear hX hY X Y)
      | (refine wp2_block ?_)
      | (refine wp1_block ?_)
      | (refine wp2_region ?_)
      | (refine wp1_region ?_)
      | (refine wp2_cond fun X Y hX hY => ?_)
      | (refine wp1_cond fun X Y hX hY => ?_)
      | (refine condK_of (fun c => ?_) (fun c => ?_) <;> (try simp [-List.length_eq_zero_iff] at c))
      | (refine guard1_or (fun c => ?_) (fun c => ?_) <;> (have cc := c) <;> (try simp [-List.length_eq_zero_iff] at cc) <;> (try simp (disch := omega) [t0, t1, c]))
      | (refine callT_fl (szI_ok _ _ ?_ ?_ ?_) (by simp [St.args, St.arg, t0, t1] <;> first | rfl | ((repeat' first | rfl | apply And.intro); done)) (by first | (simp [RV.flat, RV.flats, T.flat]; done) | ((repeat' first | exact flat_intRow _ | exact flat_boolRow _ | exact trivial | constructor | unfold RV.flat | unfold RV.flats); done)) (by simp [mutsOf]) ?_; omega; omega; omega)
      | (refine callT_fl (szI_no _ _ ?_ ?_ ?_) (by simp [St.args, St.arg, t0, t1] <;> first | rfl | ((repeat' first | rfl | apply And.intro); done)) (by first | (simp [RV.flat, RV.flats, T.flat]; done) | ((repeat' first | exact flat_intRow _ | exact flat_boolRow _ | exact trivial | constructor | unfold RV.flat | unfold RV.flats); done)) (by simp [mutsOf]) ?_; omega; omega; omega)
      | (refine callT_fl (szB_ok _ _ ?_ ?_ ?_) (by simp [St.args, St.arg, t0, t1] <;> first | rfl | ((repeat' first | rfl | apply And.intro); done)) (by first | (simp [RV.flat, RV.flats, T.flat]; done) | ((repeat' first | exact flat_intRow _ | exact flat_boolRow _ | exact trivial | constructor | unfold RV.flat | unfold RV.flats); done)) (by simp [mutsOf]) ?_; omega; omega; omega)
      | (refine callT_fl (szB_no _ _ ?_ ?_ ?_) (by simp [St.args, St.arg, t0, t1] <;> first | rfl | ((repeat' first | rfl | apply And.intro); done)) (by first | (simp [RV.flat, RV.flats, T.flat]; done) | ((repeat' first | exact flat_intRow _ | exact flat_boolRow _ | exact trivial | constructor | unfold RV.flat | unfold RV.flats); done)) (by simp [mutsOf]) ?_; omega; omega; omega)
      | (simp (disch := omega) [t0, t1]))
    all_goals try (simp [t0, t1, Back]; done)
  all_goals first
    | (have hs : left < sumA a := by (unfold sumA; omega)
       simp [Back, hs]; done)
    | (have hs : ¬ left < sumA a := by (unfold sumA; omega)
       simp [Back, hs]
       unfold sumA
       omega)
def rvA (a : Au) : List RV := [.own 1 (intRow a.parent), .own 1 (intRow a.last), .own 1 (intRow a.fail), .own 1 (intRow a.must), .own 1 (boolRow a.bad)]
/-- The code of laws.toAuto. -/
def k18 : Code1 :=
  (.seq
    (.region [1, 2] false ([]) [
      ⟨some 1, Op.box 33 (Operand.tmp 0), none⟩,
      ⟨some 2, Op.alloc 36, none⟩])
    (.seq
      (.region [3] false ([]) [
        ⟨some 3, Op.alloc 36, none⟩])
      (.seq
        (.region [6] false ([]) [
          ⟨some 4, Op.fieldAddr 33 (Operand.tmp 1) 0, none⟩,
          ⟨some 5, Op.load 22 (Operand.tmp 4), none⟩,
          ⟨some 6, Op.call { callee := Callee.value (Operand.func 22), args := #[Operand.tmp 5], argTypes := #[22] }, none⟩,
          ⟨some 7, Op.fieldAddr 36 (Operand.tmp 3) 0, none⟩,
          ⟨none, Op.store 22 (Operand.tmp 7) (Operand.tmp 6), none⟩])
        (.seq
          (.region [10] false ([]) [
            ⟨some 8, Op.fieldAddr 33 (Operand.tmp 1) 1, none⟩,
            ⟨some 9, Op.load 22 (Operand.tmp 8), none⟩,
            ⟨some 10, Op.call { callee := Callee.value (Operand.func 22), args := #[Operand.tmp 9], argTypes := #[22] }, none⟩,
            ⟨some 11, Op.fieldAddr 36 (Operand.tmp 3) 1, none⟩,
            ⟨none, Op.store 22 (Operand.tmp 11) (Operand.tmp 10), none⟩])
          (.seq
            (.region [14] false ([]) [
              ⟨some 12, Op.fieldAddr 33 (Operand.tmp 1) 2, none⟩,
              ⟨some 13, Op.load 22 (Operand.tmp 12), none⟩,
              ⟨some 14, Op.call { callee := Callee.value (Operand.func 22), args := #[Operand.tmp 13], argTypes := #[22] }, none⟩,
              ⟨some 15, Op.fieldAddr 36 (Operand.tmp 3) 2, none⟩,
              ⟨none, Op.store 22 (Operand.tmp 15) (Operand.tmp 14), none⟩])
            (.seq
              (.region [18] false ([]) [
                ⟨some 16, Op.fieldAddr 33 (Operand.tmp 1) 3, none⟩,
                ⟨some 17, Op.load 22 (Operand.tmp 16), none⟩,
                ⟨some 18, Op.call { callee := Callee.value (Operand.func 22), args := #[Operand.tmp 17], argTypes := #[22] }, none⟩,
                ⟨some 19, Op.fieldAddr 36 (Operand.tmp 3) 3, none⟩,
                ⟨none, Op.store 22 (Operand.tmp 19) (Operand.tmp 18), none⟩])
              (.seq
                (.region [22] false ([]) [
                  ⟨some 20, Op.fieldAddr 33 (Operand.tmp 1) 4, none⟩,
                  ⟨some 21, Op.load 31 (Operand.tmp 20), none⟩,
                  ⟨some 22, Op.call { callee := Callee.value (Operand.func 47), args := #[Operand.tmp 21], argTypes := #[31] }, none⟩,
                  ⟨some 23, Op.fieldAddr 36 (Operand.tmp 3) 4, none⟩,
                  ⟨none, Op.store 31 (Operand.tmp 23) (Operand.tmp 22), none⟩])
                (.seq
                  (.region [] false ([]) [
                    ⟨some 24, Op.load 36 (Operand.tmp 3), none⟩,
                    ⟨none, Op.store 36 (Operand.tmp 2) (Operand.tmp 24), none⟩])
                  .ret))))))))
set_option maxHeartbeats 0 in
theorem toA (a : Au) (h : sumA a ≤ 1048576) : CallsF Try.prog 18 [.agg (encAu a)] (.agg (rvA a)) [] := by
  unfold sumA at h
  refine callsF_of_wp1 (fn := Try.f18) (k := k18) (fun _ => []) mixed (by kernel_rfl) rfl (by kernel_rfl) (by kernel_rfl) (by kernel_rfl) rfl (by simp [Try.f18]) (by simp [Arg.like]) ?_
  generalize hst : St.enter [.agg (encAu a)] = st0
  have t0 : st0.tm 0 = .agg ((encAu a) |>.map .t) := by rw [← hst]; rfl
  clear hst
  unfold k18
  simp [encAu] at t0
  repeat' (first
    | (refine wp2_seq fun K hK => ?_)
    | (refine wp1_seq fun K hK => ?_)
    | (refine M_cons fun K hK => ?_)
    | (refine hK _ ?_; clear hK K)
    | (clear hK K; refine hK _ ?_; clear hK K)
    | (clear hK K; clear hK K; refine hK _ ?_; clear hK K)
    | (clear hK K; clear hK K; clear hK K; refine hK _ ?_; clear hK K)
    | (refine hX _ ?_; clear hX hY X Y)
    | (refine hY _ ?_; clear hX hY X Y)
    | (refine wp2_block ?_)
    | (refine wp1_block ?_)
    | (refine wp2_region ?_)
    | (refine wp1_region ?_)
    | (refine wp2_cond fun X Y hX hY => ?_)
    | (refine wp1_cond fun X Y hX hY => ?_)
    | (refine condK_of (fun c => ?_) (fun c => ?_) <;> (try simp [-List.length_eq_zero_iff] at c))
    | (refine guard1_or (fun c => ?_) (fun c => ?_) <;> (have cc := c) <;> (try simp [-List.length_eq_zero_iff] at cc) <;> (try simp (disch := omega) [t0, c]))
    | (refine callT_fl (toI _ ?_) (by simp [St.args, St.arg, t0] <;> first | rfl | ((repeat' first | rfl | apply And.intro); done)) (by first | (simp [RV.flat, RV.flats, T.flat]; done) | ((repeat' first | exact flat_intRow _ | exact flat_boolRow _ | exact trivial | constructor | unfold RV.flat | unfold RV.flats); done)) (by simp [mutsOf]) ?_; omega)
    | (refine callT_fl (toB _ ?_) (by simp [St.args, St.arg, t0] <;> first | rfl | ((repeat' first | rfl | apply And.intro); done)) (by first | (simp [RV.flat, RV.flats, T.flat]; done) | ((repeat' first | exact flat_intRow _ | exact flat_boolRow _ | exact trivial | constructor | unfold RV.flat | unfold RV.flats); done)) (by simp [mutsOf]) ?_; omega)
    | (simp (disch := omega) [t0]))
  all_goals try (simp [t0, Back]; done)
  simp [Back, rvA]
/-- The code of laws.eqAuto. -/
def k20 : Code1 :=
  (.seq
    (.region [2, 3] false ([]) [
      ⟨some 2, Op.box 36 (Operand.tmp 0), none⟩,
      ⟨some 3, Op.box 36 (Operand.tmp 1), none⟩,
      ⟨some 4, Op.assign (Operand.const (Value.bool false)), none⟩])
    (.seq
      (.seq
        (.region [9] false ([]) [
          ⟨some 5, Op.fieldAddr 36 (Operand.tmp 2) 0, none⟩,
          ⟨some 6, Op.load 22 (Operand.tmp 5), none⟩,
          ⟨some 7, Op.fieldAddr 36 (Operand.tmp 3) 0, none⟩,
          ⟨some 8, Op.load 22 (Operand.tmp 7), none⟩,
          ⟨some 9, Op.call { callee := Callee.value (Operand.func 24), args := #[Operand.tmp 6, Operand.tmp 8], argTypes := #[22, 22] }, none⟩,
          ⟨some 10, Op.unOp UnOp.not 4 (Operand.tmp 9), none⟩])
        (.cond (Operand.tmp 10)
          (.seq
            (.region [] false ([]) [
              ⟨some 4, Op.assign (Operand.const (Value.bool false)), none⟩])
            .ret)
          .skip))
      (.seq
        (.seq
          (.region [15] false ([]) [
            ⟨some 11, Op.fieldAddr 36 (Operand.tmp 2) 1, none⟩,
            ⟨some 12, Op.load 22 (Operand.tmp 11), none⟩,
            ⟨some 13, Op.fieldAddr 36 (Operand.tmp 3) 1, none⟩,
            ⟨some 14, Op.load 22 (Operand.tmp 13), none⟩,
            ⟨some 15, Op.call { callee := Callee.value (Operand.func 24), args := #[Operand.tmp 12, Operand.tmp 14], argTypes := #[22, 22] }, none⟩,
            ⟨some 16, Op.unOp UnOp.not 4 (Operand.tmp 15), none⟩])
          (.cond (Operand.tmp 16)
            (.seq
              (.region [] false ([]) [
                ⟨some 4, Op.assign (Operand.const (Value.bool false)), none⟩])
              .ret)
            .skip))
        (.seq
          (.seq
            (.region [21] false ([]) [
              ⟨some 17, Op.fieldAddr 36 (Operand.tmp 2) 2, none⟩,
              ⟨some 18, Op.load 22 (Operand.tmp 17), none⟩,
              ⟨some 19, Op.fieldAddr 36 (Operand.tmp 3) 2, none⟩,
              ⟨some 20, Op.load 22 (Operand.tmp 19), none⟩,
              ⟨some 21, Op.call { callee := Callee.value (Operand.func 24), args := #[Operand.tmp 18, Operand.tmp 20], argTypes := #[22, 22] }, none⟩,
              ⟨some 22, Op.unOp UnOp.not 4 (Operand.tmp 21), none⟩])
            (.cond (Operand.tmp 22)
              (.seq
                (.region [] false ([]) [
                  ⟨some 4, Op.assign (Operand.const (Value.bool false)), none⟩])
                .ret)
              .skip))
          (.seq
            (.seq
              (.region [27] false ([]) [
                ⟨some 23, Op.fieldAddr 36 (Operand.tmp 2) 3, none⟩,
                ⟨some 24, Op.load 22 (Operand.tmp 23), none⟩,
                ⟨some 25, Op.fieldAddr 36 (Operand.tmp 3) 3, none⟩,
                ⟨some 26, Op.load 22 (Operand.tmp 25), none⟩,
                ⟨some 27, Op.call { callee := Callee.value (Operand.func 24), args := #[Operand.tmp 24, Operand.tmp 26], argTypes := #[22, 22] }, none⟩,
                ⟨some 28, Op.unOp UnOp.not 4 (Operand.tmp 27), none⟩])
              (.cond (Operand.tmp 28)
                (.seq
                  (.region [] false ([]) [
                    ⟨some 4, Op.assign (Operand.const (Value.bool false)), none⟩])
                  .ret)
                .skip))
            (.seq
              (.seq
                (.region [33] false ([]) [
                  ⟨some 29, Op.fieldAddr 36 (Operand.tmp 2) 4, none⟩,
                  ⟨some 30, Op.load 31 (Operand.tmp 29), none⟩,
                  ⟨some 31, Op.fieldAddr 36 (Operand.tmp 3) 4, none⟩,
                  ⟨some 32, Op.load 31 (Operand.tmp 31), none⟩,
                  ⟨some 33, Op.call { callee := Callee.value (Operand.func 50), args := #[Operand.tmp 30, Operand.tmp 32], argTypes := #[31, 31] }, none⟩,
                  ⟨some 34, Op.unOp UnOp.not 4 (Operand.tmp 33), none⟩])
                (.cond (Operand.tmp 34)
                  (.seq
                    (.region [] false ([]) [
                      ⟨some 4, Op.assign (Operand.const (Value.bool false)), none⟩])
                    .ret)
                  .skip))
              (.seq
                (.region [] false ([]) [
                  ⟨some 4, Op.assign (Operand.const (Value.bool true)), none⟩])
                .ret)))))))
set_option maxHeartbeats 0 in
theorem eqA (a : Au) (h : sumA a ≤ 1048576) : CallsF Try.prog 20 [.agg (encAu a), .agg (encAu a)] (.t (.v (.bool true))) [] := by
  unfold sumA at h
  refine callsF_of_wp1 (fn := Try.f20) (k := k20) (fun _ => []) mixed (by kernel_rfl) rfl (by kernel_rfl) (by kernel_rfl) (by kernel_rfl) rfl (by simp [Try.f20]) (by simp [Arg.like]) ?_
  generalize hst : St.enter [.agg (encAu a), .agg (encAu a)] = st0
  have t0 : st0.tm 0 = .agg ((encAu a) |>.map .t) := by rw [← hst]; rfl
  have t1 : st0.tm 1 = .agg ((encAu a) |>.map .t) := by rw [← hst]; rfl
  clear hst
  unfold k20
  simp [encAu] at t0 t1
  repeat' (first
    | (refine wp2_seq fun K hK => ?_)
    | (refine wp1_seq fun K hK => ?_)
    | (refine M_cons fun K hK => ?_)
    | (refine hK _ ?_; clear hK K)
    | (clear hK K; refine hK _ ?_; clear hK K)
    | (clear hK K; clear hK K; refine hK _ ?_; clear hK K)
    | (clear hK K; clear hK K; clear hK K; refine hK _ ?_; clear hK K)
    | (refine hX _ ?_; clear hX hY X Y)
    | (refine hY _ ?_; clear hX hY X Y)
    | (refine wp2_block ?_)
    | (refine wp1_block ?_)
    | (refine wp2_region ?_)
    | (refine wp1_region ?_)
    | (refine wp2_cond fun X Y hX hY => ?_)
    | (refine wp1_cond fun X Y hX hY => ?_)
    | (refine condK_of (fun c => ?_) (fun c => ?_) <;> (try simp [-List.length_eq_zero_iff] at c))
    | (refine guard1_or (fun c => ?_) (fun c => ?_) <;> (have cc := c) <;> (try simp [-List.length_eq_zero_iff] at cc) <;> (try simp (disch := omega) [t0, t1, c]))
    | (refine callT_fl (eqI _ _ ?_ ?_) (by simp [St.args, St.arg, t0, t1] <;> first | rfl | ((repeat' first | rfl | apply And.intro); done)) (by first | (simp [RV.flat, RV.flats, T.flat]; done) | ((repeat' first | exact flat_intRow _ | exact flat_boolRow _ | exact trivial | constructor | unfold RV.flat | unfold RV.flats); done)) (by simp [mutsOf]) ?_; omega; omega)
    | (refine callT_fl (eqB _ _ ?_ ?_) (by simp [St.args, St.arg, t0, t1] <;> first | rfl | ((repeat' first | rfl | apply And.intro); done)) (by first | (simp [RV.flat, RV.flats, T.flat]; done) | ((repeat' first | exact flat_intRow _ | exact flat_boolRow _ | exact trivial | constructor | unfold RV.flat | unfold RV.flats); done)) (by simp [mutsOf]) ?_; omega; omega)
    | (simp (disch := omega) [t0, t1]))
  all_goals try (simp [t0, t1, Back]; done)
end Cal

set_option linter.unusedSimpArgs false
set_option linter.unusedVariables false
namespace Cal
open Go Go.Proofs Auto AC
set_option maxRecDepth 100000
@[simp] theorem bools_sl (l : List Bool) : T.sl (boolRow l) = bools l := rfl
/-- The code of laws.FnExactValidAuto. -/
def k4 : Code1 :=
  (.seq
    (.region [1] false ([]) [
      ⟨some 1, Op.box 33 (Operand.tmp 0), none⟩,
      ⟨some 2, Op.assign (Operand.const (Value.bool false)), none⟩])
    (.seq
      (.region [] false ([]) [
        ⟨some 3, Op.assign (Operand.const (Value.int IntKind.i64 1048576)), none⟩])
      (.seq
        (.region [9] false ([]) [
          ⟨some 7, Op.load 33 (Operand.tmp 1), none⟩,
          ⟨some 8, Op.move (Operand.tmp 3), none⟩,
          ⟨some 9, Op.call { callee := Callee.value (Operand.func 16), args := #[Operand.tmp 7, Operand.tmp 8], argTypes := #[33, 3] }, none⟩,
          ⟨some 3, Op.assign (Operand.tmp 9), none⟩])
        (.seq
          (.seq
            (.region [] false ([]) [
              ⟨some 10, Op.move (Operand.tmp 3), none⟩,
              ⟨some 11, Op.binOp BinOp.lss 3 (Operand.tmp 10) (Operand.const (Value.int IntKind.i64 0)) 3, none⟩])
            (.cond (Operand.tmp 11)
              (.seq
                (.region [] false ([]) [
                  ⟨some 2, Op.assign (Operand.const (Value.bool true)), none⟩])
                .ret)
              .skip))
          (.seq
            (.region [13, 14] false ([]) [
              ⟨some 12, Op.load 33 (Operand.tmp 1), none⟩,
              ⟨some 13, Op.call { callee := Callee.value (Operand.func 18), args := #[Operand.tmp 12], argTypes := #[33] }, none⟩,
              ⟨some 14, Op.call { callee := Callee.value (Operand.func 17), args := #[Operand.tmp 13], argTypes := #[36] }, none⟩,
              ⟨some 4, Op.assign (Operand.tmp 14), none⟩])
            (.seq
              (.region [16, 5] false ([]) [
                ⟨some 15, Op.load 33 (Operand.tmp 1), none⟩,
                ⟨some 16, Op.call { callee := Callee.value (Operand.func 18), args := #[Operand.tmp 15], argTypes := #[33] }, none⟩,
                ⟨some 5, Op.alloc 36, none⟩,
                ⟨none, Op.store 36 (Operand.tmp 5) (Operand.tmp 16), none⟩])
              (.seq
                (.region [18] false ([]) [
                  ⟨some 17, Op.load 36 (Operand.tmp 5), none⟩,
                  ⟨some 18, Op.call { callee := Callee.value (Operand.func 19), args := #[Operand.tmp 17], argTypes := #[36] }, none⟩,
                  ⟨some 6, Op.assign (Operand.tmp 18), none⟩])
                (.seq
                  (.seq
                    (.region [] false ([]) [
                      ⟨some 19, Op.move (Operand.tmp 6), none⟩,
                      ⟨some 20, Op.move (Operand.tmp 4), none⟩,
                      ⟨some 21, Op.binOp BinOp.neq 4 (Operand.tmp 19) (Operand.tmp 20) 4, none⟩])
                    (.cond (Operand.tmp 21)
                      (.seq
                        (.region [] false ([]) [
                          ⟨some 2, Op.assign (Operand.const (Value.bool false)), none⟩])
                        .ret)
                      .skip))
                  (.seq
                    (.seq
                      (.region [24, 25] true ([]) [
                        ⟨some 22, Op.load 36 (Operand.tmp 5), none⟩,
                        ⟨some 23, Op.load 33 (Operand.tmp 1), none⟩,
                        ⟨some 24, Op.call { callee := Callee.value (Operand.func 18), args := #[Operand.tmp 23], argTypes := #[33] }, none⟩,
                        ⟨some 25, Op.call { callee := Callee.value (Operand.func 20), args := #[Operand.tmp 22, Operand.tmp 24], argTypes := #[36, 36] }, none⟩,
                        ⟨some 26, Op.unOp UnOp.not 4 (Operand.tmp 25), none⟩])
                      (.cond (Operand.tmp 26)
                        (.seq
                          (.region [] false ([]) [
                            ⟨some 2, Op.assign (Operand.const (Value.bool false)), none⟩])
                          .ret)
                        .skip))
                    (.seq
                      (.region [] false ([]) [
                        ⟨some 2, Op.assign (Operand.const (Value.bool true)), none⟩])
                      .ret))))))))))
set_option maxHeartbeats 0 in
theorem lawVA (a : Au) (hg : smallA a) : CallsF Try.prog 4 [.agg (encAu a)] (.t (.v (.bool true))) [] := by
  refine callsF_of_wp1 (fn := Try.f4) (k := k4) (fun _ => []) mixed (by kernel_rfl) rfl (by kernel_rfl) (by kernel_rfl) (by kernel_rfl) rfl (by simp [Try.f4]) (by simp [Arg.like]) ?_
  generalize hst : St.enter [.agg (encAu a)] = st0
  have t0 : st0.tm 0 = .agg ((encAu a) |>.map .t) := by rw [← hst]; rfl
  clear hst
  unfold k4
  simp [encAu] at t0
  by_cases hs : 1048576 < sumA a
  · repeat' (first
      | (refine wp2_seq fun K hK => ?_)
      | (refine wp1_seq fun K hK => ?_)
      | (refine M_cons fun K hK => ?_)
      | (refine hK _ ?_; clear hK K)
      | (clear hK K; refine hK _ ?_; clear hK K)
      | (clear hK K; clear hK K; refine hK _ ?_; clear hK K)
      | (clear hK K; clear hK K; clear hK K; refine hK _ ?_; clear hK K)
      | (refine hX _ ?_; clear hX hY X Y)
      | (refine hY _ ?_; clear hX hY X Y)
      | (refine wp2_block ?_)
      | (refine wp1_block ?_)
      | (refine wp2_region ?_)
      | (refine wp1_region ?_)
      | (refine wp2_cond fun X Y hX hY => ?_)
      | (refine wp1_cond fun X Y hX hY => ?_)
      | (refine condK_of (fun c => ?_) (fun c => ?_) <;> (try simp [-List.length_eq_zero_iff] at c))
      | (refine guard1_or (fun c => ?_) (fun c => ?_) <;> (have cc := c) <;> (try simp [-List.length_eq_zero_iff] at cc) <;> (try simp (disch := omega) [t0, hs, encAu, c]))
      | (refine callT_fl (szA a _ hg ?_ ?_) (by simp [St.args, St.arg, t0, hs, encAu] <;> first | rfl | ((repeat' first | rfl | apply And.intro); done)) (by first | (simp [RV.flat, RV.flats, T.flat]; done) | ((repeat' first | exact flat_intRow _ | exact flat_boolRow _ | exact trivial | constructor | unfold RV.flat | unfold RV.flats); done)) (by simp [mutsOf]) ?_; omega; omega)
      | (simp (disch := omega) [t0, hs, encAu]))
    all_goals try (simp [t0, hs, encAu, Back]; done)
  · have hs2 : sumA a ≤ 1048576 := by omega
    have hq := hs2
    unfold sumA at hq
    have hs3 : 0 ≤ 1048576 - sumA a := by omega
    repeat' (first
      | (refine wp2_seq fun K hK => ?_)
      | (refine wp1_seq fun K hK => ?_)
      | (refine M_cons fun K hK => ?_)
      | (refine hK _ ?_; clear hK K)
      | (clear hK K; refine hK _ ?_; clear hK K)
      | (clear hK K; clear hK K; refine hK _ ?_; clear hK K)
      | (clear hK K; clear hK K; clear hK K; refine hK _ ?_; clear hK K)
      | (refine hX _ ?_; clear hX hY X Y)
      | (refine hY _ ?_; clear hX hY X Y)
      | (refine wp2_block ?_)
      | (refine wp1_block ?_)
      | (refine wp2_region ?_)
      | (refine wp1_region ?_)
      | (refine wp2_cond fun X Y hX hY => ?_)
      | (refine wp1_cond fun X Y hX hY => ?_)
      | (refine condK_of (fun c => ?_) (fun c => ?_) <;> (try simp [-List.length_eq_zero_iff] at c))
      | (refine guard1_or (fun c => ?_) (fun c => ?_) <;> (have cc := c) <;> (try simp [-List.length_eq_zero_iff] at cc) <;> (try simp (disch := omega) [t0, hs, encAu, rvA, c]))
      | (refine callT_fl (szA a _ hg ?_ ?_) (by simp [St.args, St.arg, t0, hs, encAu, rvA] <;> first | rfl | ((repeat' first | rfl | apply And.intro); done)) (by first | (simp [RV.flat, RV.flats, T.flat]; done) | ((repeat' first | exact flat_intRow _ | exact flat_boolRow _ | exact trivial | constructor | unfold RV.flat | unfold RV.flats); done)) (by simp [mutsOf]) ?_; omega; omega)
      | (refine callT_fl (toA a ?_) (by simp [St.args, St.arg, t0, hs, encAu, rvA] <;> first | rfl | ((repeat' first | rfl | apply And.intro); done)) (by first | (simp [RV.flat, RV.flats, T.flat]; done) | ((repeat' first | exact flat_intRow _ | exact flat_boolRow _ | exact trivial | constructor | unfold RV.flat | unfold RV.flats); done)) (by simp [mutsOf]) ?_; omega)
      | (refine callT_fl (vaS a ?_ ?_ ?_ ?_ ?_) (by simp [St.args, St.arg, t0, hs, encAu, rvA] <;> first | rfl | ((repeat' first | rfl | apply And.intro); done)) (by first | (simp [RV.flat, RV.flats, T.flat]; done) | ((repeat' first | exact flat_intRow _ | exact flat_boolRow _ | exact trivial | constructor | unfold RV.flat | unfold RV.flats); done)) (by simp [mutsOf]) ?_; omega; omega; omega; omega; omega)
      | (refine callT_fl (vaI a ?_ ?_ ?_ ?_ ?_) (by simp [St.args, St.arg, t0, hs, encAu, rvA] <;> first | rfl | ((repeat' first | rfl | apply And.intro); done)) (by first | (simp [RV.flat, RV.flats, T.flat]; done) | ((repeat' first | exact flat_intRow _ | exact flat_boolRow _ | exact trivial | constructor | unfold RV.flat | unfold RV.flats); done)) (by simp [mutsOf]) ?_; omega; omega; omega; omega; omega)
      | (refine callT_fl (eqA a ?_) (by simp [St.args, St.arg, t0, hs, encAu, rvA] <;> first | rfl | ((repeat' first | rfl | apply And.intro); done)) (by first | (simp [RV.flat, RV.flats, T.flat]; done) | ((repeat' first | exact flat_intRow _ | exact flat_boolRow _ | exact trivial | constructor | unfold RV.flat | unfold RV.flats); done)) (by simp [mutsOf]) ?_; omega)
      | (simp (disch := omega) [t0, hs, encAu, rvA]))
    all_goals try (simp [t0, hs, encAu, rvA, Back]; done)
end Cal
