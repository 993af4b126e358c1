import Derived.Test.YthaebckdhcnkfaaTE
set_option linter.unusedSimpArgs false
set_option linter.unusedVariables false
namespace Cal
open Go Go.Proofs
set_option maxRecDepth 100000
/-- A call whose first argument is the nil slice. -/
theorem callT_nil {P : Program} {f : FuncId} {mute : Bool} {st : St} {v2 : AV} {d : Option Nat} {K : St → Prop} {b2 : Arg} {res : RV} (h : CallsF P f [.val (.v (.slice none 0 0)), b2] res []) (ha : st.args [v2] [b2]) (hf : res.flat) (hm : mutsOf [v2] [b2] = [])
    (hK : K ((st.eff (retOf d res).2).put d (retOf d res).1)) : callT P f mute st [.t (.v (.slice none 0 0)), v2] d K :=
  callT_flat h hf ⟨rfl, ha⟩ (by simpa [mutsOf] using hm) hK
/-- A call that is handed a row to be written, and a value. -/
theorem callT_mrow {P : Program} {f : FuncId} {st : St} {id : Id} {n : Nat} {v2 : AV} {d : Option Nat} {K : St → Prop} {l : List Int} {y : T} {res : RV} {outs : List (Option Arg)} (h : CallsF P f [.mrow 1 (intRow l), .val y] res outs) (ho : st.ob id = some (.row 1 (intRow l))) (hn : n = l.length) (hv : v2 = .t y) (hf : res.flat) (hfl : Arg.flats outs)
    (hK : K ((st.eff (outEff [AV.row id 1 0 n, v2] [.mrow 1 (intRow l), .val y] outs ++ (retOf d res).2)).put d (retOf d res).1)) : callT P f false st [.row id 1 0 n, v2] d K := by
  subst hv
  refine callT_gen true h (fun _ => ⟨hf, hfl⟩) ⟨⟨id, by simp [hn], ho⟩, rfl, trivial⟩ ⟨by simp [mutsOf], by simp [mutsOf, valsOf, noRow]⟩ (fun h => by cases h) ?_
  simpa [callFrz] using hK
theorem heldN (k : Int) : CallsF Try.prog 29 [.val (.v (.slice none 0 0)), .val (.v (.int .i64 k))] (.t (.v (.int .i64 k))) [] := by
  refine callsF_of_wp2 (fn := Try.f29) (k := k29) (fun _ => []) mixed (by kernel_rfl) rfl (by kernel_rfl) (by kernel_rfl) (by kernel_rfl) rfl (by simp [Try.f29]) (by simp [Arg.like]) ?_
  generalize hst : St.enter [.val (.v (.slice none 0 0)), .val (.v (.int .i64 k))] = st0
  have t0 : st0.tm 0 = .t (.v (.slice none 0 0)) := by rw [← hst]; rfl
  have t1 : st0.tm 1 = .t (.v (.int .i64 k)) := by rw [← hst]; rfl
  clear hst
  unfold k29
  repeat' (first
    | (refine wp2_seq fun K hK => ?_)
    | (refine wp1_seq fun K hK => ?_)
    | (refine M_cons fun K hK => ?_)
    | (refine hK _ ?_; clear hK K)
    | (clear hK K; refine hK _ ?_; clear hK K)
    | (clear hK K; clear hK K; refine hK _ ?_; clear hK K)
    | (clear hK K; clear hK K; clear hK K; refine hK _ ?_; clear hK K)
    | (refine hX _ ?_; clear hX hY X Y)
    | (refine hY _ ?_; clear hX hY X Y)
    | (refine wp2_block ?_)
    | (refine wp1_block ?_)
    | (refine wp2_region ?_)
    | (refine wp1_region ?_)
    | (refine wp2_cond fun X Y hX hY => ?_)
    | (refine wp1_cond fun X Y hX hY => ?_)
    | (refine condK_of (fun c => ?_) (fun c => ?_) <;> (try simp [-List.length_eq_zero_iff] at c))
    | (refine guard1_or (fun c => ?_) (fun c => ?_) <;> (have cc := c) <;> (try simp [-List.length_eq_zero_iff] at cc) <;> (try simp (disch := omega) [t0, t1, c]))
    | (simp (disch := omega) [t0, t1]))
  all_goals try (simp [t0, t1, Back]; done)
  have hJ : ∀ s, s.tm 1 = .t (.v (.int .i64 k)) → K s := by
    intro s s1
    repeat' (first
      | (refine wp2_seq fun K hK => ?_)
      | (refine wp1_seq fun K hK => ?_)
      | (refine M_cons fun K hK => ?_)
      | (refine hK _ ?_; clear hK K)
      | (clear hK K; refine hK _ ?_; clear hK K)
      | (clear hK K; clear hK K; refine hK _ ?_; clear hK K)
      | (clear hK K; clear hK K; clear hK K; refine hK _ ?_; clear hK K)
      | (refine hX _ ?_; clear hX hY X Y)
      | (refine hY _ ?_; clear hX hY X Y)
      | (refine wp2_block ?_)
      | (refine wp1_block ?_)
      | (refine wp2_region ?_)
      | (refine wp1_region ?_)
      | (refine wp2_cond fun X Y hX hY => ?_)
      | (refine wp1_cond fun X Y hX hY => ?_)
      | (refine condK_of (fun c => ?_) (fun c => ?_) <;> (try simp [-List.length_eq_zero_iff] at c))
      | (refine guard1_or (fun c => ?_) (fun c => ?_) <;> (have cc := c) <;> (try simp [-List.length_eq_zero_iff] at cc) <;> (try simp (disch := omega) [s1, c]))
      | (simp (disch := omega) [s1]))
    all_goals try (simp [s1, Back]; done)
  clear hK
  refine wp2_loop (fun n s => s.tm 0 = .t (.v (.slice none 0 0)) ∧ s.tm 1 = .t (.v (.int .i64 k)) ∧ s.tm 5 = .t (.v (.int .i64 0))) 0 ?_ ?_
  · simp [t0, t1]
  · rintro n s ⟨s0, s1, s5⟩ K' hK'
    repeat' (first
      | (refine wp2_seq fun K hK => ?_)
      | (refine wp1_seq fun K hK => ?_)
      | (refine M_cons fun K hK => ?_)
      | (refine hK _ ?_; clear hK K)
      | (clear hK K; refine hK _ ?_; clear hK K)
      | (clear hK K; clear hK K; refine hK _ ?_; clear hK K)
      | (clear hK K; clear hK K; clear hK K; refine hK _ ?_; clear hK K)
      | (refine hX _ ?_; clear hX hY X Y)
      | (refine hY _ ?_; clear hX hY X Y)
      | (refine wp2_block ?_)
      | (refine wp1_block ?_)
      | (refine wp2_region ?_)
      | (refine wp1_region ?_)
      | (refine wp2_cond fun X Y hX hY => ?_)
      | (refine wp1_cond fun X Y hX hY => ?_)
      | (refine condK_of (fun c => ?_) (fun c => ?_) <;> (try simp [-List.length_eq_zero_iff] at c))
      | (refine guard1_or (fun c => ?_) (fun c => ?_) <;> (have cc := c) <;> (try simp [-List.length_eq_zero_iff] at cc) <;> (try simp (disch := omega) [s0, s1, s5, c]))
      | (simp (disch := omega) [s0, s1, s5]))
    all_goals try (simp [s0, s1, s5, Back]; done)
    exact hJ _ (by simp [s1])
theorem markN (k : Int) : CallsF Try.prog 28 [.val (.v (.slice none 0 0)), .val (.v (.int .i64 k))] (.t (.v (.int .i64 k))) [] := by
  refine callsF_of_wp2 (fn := Try.f28) (k := k28) (fun _ => []) mixed (by kernel_rfl) rfl (by kernel_rfl) (by kernel_rfl) (by kernel_rfl) rfl (by simp [Try.f28]) (by simp [Arg.like]) ?_
  generalize hst : St.enter [.val (.v (.slice none 0 0)), .val (.v (.int .i64 k))] = st0
  have t0 : st0.tm 0 = .t (.v (.slice none 0 0)) := by rw [← hst]; rfl
  have t1 : st0.tm 1 = .t (.v (.int .i64 k)) := by rw [← hst]; rfl
  clear hst
  unfold k28
  repeat' (first
    | (refine wp2_seq fun K hK => ?_)
    | (refine wp1_seq fun K hK => ?_)
    | (refine M_cons fun K hK => ?_)
    | (refine hK _ ?_; clear hK K)
    | (clear hK K; refine hK _ ?_; clear hK K)
    | (clear hK K; clear hK K; refine hK _ ?_; clear hK K)
    | (clear hK K; clear hK K; clear hK K; refine hK _ ?_; clear hK K)
    | (refine hX _ ?_; clear hX hY X Y)
    | (refine hY _ ?_; clear hX hY X Y)
    | (refine wp2_block ?_)
    | (refine wp1_block ?_)
    | (refine wp2_region ?_)
    | (refine wp1_region ?_)
    | (refine wp2_cond fun X Y hX hY => ?_)
    | (refine wp1_cond fun X Y hX hY => ?_)
    | (refine condK_of (fun c => ?_) (fun c => ?_) <;> (try simp [-List.length_eq_zero_iff] at c))
    | (refine guard1_or (fun c => ?_) (fun c => ?_) <;> (have cc := c) <;> (try simp [-List.length_eq_zero_iff] at cc) <;> (try simp (disch := omega) [t0, t1, c]))
    | (simp (disch := omega) [t0, t1]))
  all_goals try (simp [t0, t1, Back]; done)
  have hJ : ∀ s, s.tm 1 = .t (.v (.int .i64 k)) → K s := by
    intro s s1
    repeat' (first
      | (refine wp2_seq fun K hK => ?_)
      | (refine wp1_seq fun K hK => ?_)
      | (refine M_cons fun K hK => ?_)
      | (refine hK _ ?_; clear hK K)
      | (clear hK K; refine hK _ ?_; clear hK K)
      | (clear hK K; clear hK K; refine hK _ ?_; clear hK K)
      | (clear hK K; clear hK K; clear hK K; refine hK _ ?_; clear hK K)
      | (refine hX _ ?_; clear hX hY X Y)
      | (refine hY _ ?_; clear hX hY X Y)
      | (refine wp2_block ?_)
      | (refine wp1_block ?_)
      | (refine wp2_region ?_)
      | (refine wp1_region ?_)
      | (refine wp2_cond fun X Y hX hY => ?_)
      | (refine wp1_cond fun X Y hX hY => ?_)
      | (refine condK_of (fun c => ?_) (fun c => ?_) <;> (try simp [-List.length_eq_zero_iff] at c))
      | (refine guard1_or (fun c => ?_) (fun c => ?_) <;> (have cc := c) <;> (try simp [-List.length_eq_zero_iff] at cc) <;> (try simp (disch := omega) [s1, c]))
      | (simp (disch := omega) [s1]))
    all_goals try (simp [s1, Back]; done)
  clear hK
  refine wp2_loop (fun n s => s.tm 0 = .t (.v (.slice none 0 0)) ∧ s.tm 1 = .t (.v (.int .i64 k)) ∧ s.tm 5 = .t (.v (.int .i64 0))) 0 ?_ ?_
  · simp [t0, t1]
  · rintro n s ⟨s0, s1, s5⟩ K' hK'
    repeat' (first
      | (refine wp2_seq fun K hK => ?_)
      | (refine wp1_seq fun K hK => ?_)
      | (refine M_cons fun K hK => ?_)
      | (refine hK _ ?_; clear hK K)
      | (clear hK K; refine hK _ ?_; clear hK K)
      | (clear hK K; clear hK K; refine hK _ ?_; clear hK K)
      | (clear hK K; clear hK K; clear hK K; refine hK _ ?_; clear hK K)
      | (refine hX _ ?_; clear hX hY X Y)
      | (refine hY _ ?_; clear hX hY X Y)
      | (refine wp2_block ?_)
      | (refine wp1_block ?_)
      | (refine wp2_region ?_)
      | (refine wp1_region ?_)
      | (refine wp2_cond fun X Y hX hY => ?_)
      | (refine wp1_cond fun X Y hX hY => ?_)
      | (refine condK_of (fun c => ?_) (fun c => ?_) <;> (try simp [-List.length_eq_zero_iff] at c))
      | (refine guard1_or (fun c => ?_) (fun c => ?_) <;> (have cc := c) <;> (try simp [-List.length_eq_zero_iff] at cc) <;> (try simp (disch := omega) [s0, s1, s5, c]))
      | (simp (disch := omega) [s0, s1, s5]))
    all_goals try (simp [s0, s1, s5, Back]; done)
    exact hJ _ (by simp [s1])
theorem eqN : CallsF Try.prog 24 [.val (.v (.slice none 0 0)), .val (ints [])] (.t (.v (.bool true))) [] := by
  refine callsF_of_wp2 (fn := Try.f24) (k := k24) (fun _ => []) mixed (by kernel_rfl) rfl (by kernel_rfl) (by kernel_rfl) (by kernel_rfl) rfl (by simp [Try.f24]) (by simp [Arg.like]) ?_
  generalize hst : St.enter [.val (.v (.slice none 0 0)), .val (ints [])] = st0
  have t0 : st0.tm 0 = .t (.v (.slice none 0 0)) := by rw [← hst]; rfl
  have t1 : st0.tm 1 = .t (ints []) := by rw [← hst]; rfl
  clear hst
  unfold k24
  repeat' (first
    | (refine wp2_seq fun K hK => ?_)
    | (refine wp1_seq fun K hK => ?_)
    | (refine M_cons fun K hK => ?_)
    | (refine hK _ ?_; clear hK K)
    | (clear hK K; refine hK _ ?_; clear hK K)
    | (clear hK K; clear hK K; refine hK _ ?_; clear hK K)
    | (clear hK K; clear hK K; clear hK K; refine hK _ ?_; clear hK K)
    | (refine hX _ ?_; clear hX hY X Y)
    | (refine hY _ ?_; clear hX hY X Y)
    | (refine wp2_block ?_)
    | (refine wp1_block ?_)
    | (refine wp2_region ?_)
    | (refine wp1_region ?_)
    | (refine wp2_cond fun X Y hX hY => ?_)
    | (refine wp1_cond fun X Y hX hY => ?_)
    | (refine condK_of (fun c => ?_) (fun c => ?_) <;> (try simp [-List.length_eq_zero_iff] at c))
    | (refine guard1_or (fun c => ?_) (fun c => ?_) <;> (have cc := c) <;> (try simp [-List.length_eq_zero_iff] at cc) <;> (try simp (disch := omega) [t0, t1, c]))
    | (simp (disch := omega) [t0, t1]))
  all_goals try (simp [t0, t1, Back]; done)
  have hJ : ∀ s, K s := by
    intro s
    repeat' (first
      | (refine wp2_seq fun K hK => ?_)
      | (refine wp1_seq fun K hK => ?_)
      | (refine M_cons fun K hK => ?_)
      | (refine hK _ ?_; clear hK K)
      | (clear hK K; refine hK _ ?_; clear hK K)
      | (clear hK K; clear hK K; refine hK _ ?_; clear hK K)
      | (clear hK K; clear hK K; clear hK K; refine hK _ ?_; clear hK K)
      | (refine hX _ ?_; clear hX hY X Y)
      | (refine hY _ ?_; clear hX hY X Y)
      | (refine wp2_block ?_)
      | (refine wp1_block ?_)
      | (refine wp2_region ?_)
      | (refine wp1_region ?_)
      | (refine wp2_cond fun X Y hX hY => ?_)
      | (refine wp1_cond fun X Y hX hY => ?_)
      | (refine condK_of (fun c => ?_) (fun c => ?_) <;> (try simp [-List.length_eq_zero_iff] at c))
      | (refine guard1_or (fun c => ?_) (fun c => ?_) <;> (have cc := c) <;> (try simp [-List.length_eq_zero_iff] at cc) <;> (try simp (disch := omega) [c]))
      | (simp (disch := omega) []))
    all_goals try (simp [Back]; done)
  clear hK
  refine wp2_loop (fun n s => s.tm 0 = .t (.v (.slice none 0 0)) ∧ s.tm 5 = .t (.v (.int .i64 0))) 0 ?_ ?_
  · simp [t0, t1]
  · rintro n s ⟨s0, s5⟩ K' hK'
    repeat' (first
      | (refine wp2_seq fun K hK => ?_)
      | (refine wp1_seq fun K hK => ?_)
      | (refine M_cons fun K hK => ?_)
      | (refine hK _ ?_; clear hK K)
      | (clear hK K; refine hK _ ?_; clear hK K)
      | (clear hK K; clear hK K; refine hK _ ?_; clear hK K)
      | (clear hK K; clear hK K; clear hK K; refine hK _ ?_; clear hK K)
      | (refine hX _ ?_; clear hX hY X Y)
      | (refine hY _ ?_; clear hX hY X Y)
      | (refine wp2_block ?_)
      | (refine wp1_block ?_)
      | (refine wp2_region ?_)
      | (refine wp1_region ?_)
      | (refine wp2_cond fun X Y hX hY => ?_)
      | (refine wp1_cond fun X Y hX hY => ?_)
      | (refine condK_of (fun c => ?_) (fun c => ?_) <;> (try simp [-List.length_eq_zero_iff] at c))
      | (refine guard1_or (fun c => ?_) (fun c => ?_) <;> (have cc := c) <;> (try simp [-List.length_eq_zero_iff] at cc) <;> (try simp (disch := omega) [s0, s5, c]))
      | (simp (disch := omega) [s0, s5]))
    all_goals try (simp [s0, s5, Back]; done)
    exact hJ _
/-- The code of laws.FnExactPathEdges. -/
def k7 : Code1 :=
  (.seq
    (.region [2] false ([]) [
      ⟨some 2, Op.box 24 (Operand.tmp 0), none⟩,
      ⟨some 4, Op.assign (Operand.const (Value.bool false)), none⟩])
    (.seq
      (.seq
        (.region [] false ([]) [
          ⟨some 14, Op.move (Operand.tmp 1), none⟩,
          ⟨some 15, Op.call { callee := Callee.builtin Builtin.len, args := #[Operand.tmp 14], argTypes := #[22] }, none⟩,
          ⟨some 16, Op.binOp BinOp.gtr 3 (Operand.tmp 15) (Operand.const (Value.int IntKind.i64 1048576)) 3, none⟩])
        (.cond (Operand.tmp 16)
          (.seq
            (.region [] false ([]) [
              ⟨some 4, Op.assign (Operand.const (Value.bool true)), none⟩])
            .ret)
          .skip))
      (.seq
        (.region [] false ([]) [
          ⟨some 5, Op.assign (Operand.const (Value.int IntKind.i64 1048576)), none⟩])
        (.seq
          (.region [19] false ([]) [
            ⟨some 17, Op.load 24 (Operand.tmp 2), none⟩,
            ⟨some 18, Op.move (Operand.tmp 5), none⟩,
            ⟨some 19, Op.call { callee := Callee.value (Operand.func 11), args := #[Operand.tmp 17, Operand.tmp 18], argTypes := #[24, 3] }, none⟩,
            ⟨some 5, Op.assign (Operand.tmp 19), none⟩])
          (.seq
            (.seq
              (.region [] false ([]) [
                ⟨some 20, Op.move (Operand.tmp 5), none⟩,
                ⟨some 21, Op.binOp BinOp.lss 3 (Operand.tmp 20) (Operand.const (Value.int IntKind.i64 0)) 3, none⟩])
              (.cond (Operand.tmp 21)
                (.seq
                  (.region [] false ([]) [
                    ⟨some 4, Op.assign (Operand.const (Value.bool true)), none⟩])
                  .ret)
                .skip))
            (.seq
              (.region [23, 25, 26] false ([]) [
                ⟨some 22, Op.load 24 (Operand.tmp 2), none⟩,
                ⟨some 23, Op.call { callee := Callee.value (Operand.func 13), args := #[Operand.tmp 22], argTypes := #[24] }, none⟩,
                ⟨some 24, Op.move (Operand.tmp 1), none⟩,
                ⟨some 25, Op.call { callee := Callee.value (Operand.func 22), args := #[Operand.tmp 24], argTypes := #[22] }, none⟩,
                ⟨some 26, Op.call { callee := Callee.value (Operand.func 30), args := #[Operand.tmp 23, Operand.tmp 25], argTypes := #[27, 22] }, none⟩,
                ⟨some 6, Op.assign (Operand.tmp 26), none⟩])
              (.seq
                (.region [28, 7] false ([]) [
                  ⟨some 27, Op.load 24 (Operand.tmp 2), none⟩,
                  ⟨some 28, Op.call { callee := Callee.value (Operand.func 13), args := #[Operand.tmp 27], argTypes := #[24] }, none⟩,
                  ⟨some 7, Op.alloc 27, none⟩,
                  ⟨none, Op.store 27 (Operand.tmp 7) (Operand.tmp 28), none⟩])
                (.seq
                  (.region [30] false ([]) [
                    ⟨some 29, Op.move (Operand.tmp 1), none⟩,
                    ⟨some 30, Op.call { callee := Callee.value (Operand.func 22), args := #[Operand.tmp 29], argTypes := #[22] }, none⟩,
                    ⟨some 8, Op.assign (Operand.tmp 30), none⟩])
                  (.seq
                    (.region [33] false ([]) [
                      ⟨some 31, Op.load 27 (Operand.tmp 7), none⟩,
                      ⟨some 32, Op.move (Operand.tmp 8), none⟩,
                      ⟨some 33, Op.call { callee := Callee.value (Operand.func 31), args := #[Operand.tmp 31, Operand.tmp 32], argTypes := #[27, 22] }, none⟩,
                      ⟨some 9, Op.assign (Operand.tmp 33), none⟩])
                    (.seq
                      (.seq
                        (.region [36] false ([]) [
                          ⟨some 34, Op.move (Operand.tmp 9), none⟩,
                          ⟨some 35, Op.move (Operand.tmp 6), none⟩,
                          ⟨some 36, Op.call { callee := Callee.value (Operand.func 24), args := #[Operand.tmp 34, Operand.tmp 35], argTypes := #[22, 22] }, none⟩,
                          ⟨some 37, Op.unOp UnOp.not 4 (Operand.tmp 36), none⟩])
                        (.cond (Operand.tmp 37)
                          (.seq
                            (.region [] false ([]) [
                              ⟨some 4, Op.assign (Operand.const (Value.bool false)), none⟩])
                            .ret)
                          .skip))
                      (.seq
                        (.seq
                          (.region [40, 41] true ([]) [
                            ⟨some 38, Op.load 27 (Operand.tmp 7), none⟩,
                            ⟨some 39, Op.load 24 (Operand.tmp 2), none⟩,
                            ⟨some 40, Op.call { callee := Callee.value (Operand.func 13), args := #[Operand.tmp 39], argTypes := #[24] }, none⟩,
                            ⟨some 41, Op.call { callee := Callee.value (Operand.func 15), args := #[Operand.tmp 38, Operand.tmp 40], argTypes := #[27, 27] }, none⟩,
                            ⟨some 42, Op.unOp UnOp.not 4 (Operand.tmp 41), none⟩])
                          (.cond (Operand.tmp 42)
                            (.seq
                              (.region [] false ([]) [
                                ⟨some 4, Op.assign (Operand.const (Value.bool false)), none⟩])
                              .ret)
                            .skip))
                        (.seq
                          (.seq
                            (.region [45, 46] false ([]) [
                              ⟨some 43, Op.move (Operand.tmp 8), none⟩,
                              ⟨some 44, Op.move (Operand.tmp 1), none⟩,
                              ⟨some 45, Op.call { callee := Callee.value (Operand.func 22), args := #[Operand.tmp 44], argTypes := #[22] }, none⟩,
                              ⟨some 46, Op.call { callee := Callee.value (Operand.func 24), args := #[Operand.tmp 43, Operand.tmp 45], argTypes := #[22, 22] }, none⟩,
                              ⟨some 47, Op.unOp UnOp.not 4 (Operand.tmp 46), none⟩])
                            (.cond (Operand.tmp 47)
                              (.seq
                                (.region [] false ([]) [
                                  ⟨some 4, Op.assign (Operand.const (Value.bool false)), none⟩])
                                .ret)
                              .skip))
                          (.seq
                            (.region [] false ([]) [
                              ⟨some 10, Op.assign (Operand.const (Value.int IntKind.i64 1)), none⟩])
                            (.seq
                              (.region [50] false ([]) [
                                ⟨some 48, Op.load 27 (Operand.tmp 7), none⟩,
                                ⟨some 49, Op.move (Operand.tmp 10), none⟩,
                                ⟨some 50, Op.call { callee := Callee.value (Operand.func 27), args := #[Operand.tmp 48, Operand.tmp 49], argTypes := #[27, 3] }, none⟩,
                                ⟨some 10, Op.assign (Operand.tmp 50), none⟩])
                              (.seq
                                (.region [53] false ([]) [
                                  ⟨some 51, Op.move (Operand.tmp 8), none⟩,
                                  ⟨some 52, Op.move (Operand.tmp 10), none⟩,
                                  ⟨some 53, Op.call { callee := Callee.value (Operand.func 28), args := #[Operand.tmp 51, Operand.tmp 52], argTypes := #[22, 3] }, none⟩,
                                  ⟨some 10, Op.assign (Operand.tmp 53), none⟩])
                                (.seq
                                  (.seq
                                    (.region [59] false ([]) [
                                      ⟨some 54, Op.move (Operand.tmp 10), none⟩,
                                      ⟨some 55, Op.binOp BinOp.lss 3 (Operand.tmp 54) (Operand.const (Value.int IntKind.i64 0)) 3, none⟩,
                                      ⟨some 56, Op.move (Operand.tmp 55), none⟩,
                                      ⟨some 57, Op.move (Operand.tmp 9), some (56, false)⟩,
                                      ⟨some 58, Op.move (Operand.tmp 6), some (56, false)⟩,
                                      ⟨some 59, Op.call { callee := Callee.value (Operand.func 24), args := #[Operand.tmp 57, Operand.tmp 58], argTypes := #[22, 22] }, some (56, false)⟩,
                                      ⟨some 60, Op.unOp UnOp.not 4 (Operand.tmp 59), some (56, false)⟩,
                                      ⟨some 61, Op.pick (Operand.tmp 56) (Operand.const (Value.bool true)) (Operand.tmp 60), none⟩])
                                    (.cond (Operand.tmp 61)
                                      (.seq
                                        (.region [] false ([]) [
                                          ⟨some 4, Op.assign (Operand.const (Value.bool false)), none⟩])
                                        .ret)
                                      .skip))
                                  (.seq
                                    (.region [] false ([]) [
                                      ⟨some 11, Op.assign (Operand.const (Value.int IntKind.i64 1)), none⟩])
                                    (.seq
                                      (.region [64] false ([]) [
                                        ⟨some 62, Op.move (Operand.tmp 9), none⟩,
                                        ⟨some 63, Op.move (Operand.tmp 11), none⟩,
                                        ⟨some 64, Op.call { callee := Callee.value (Operand.func 28), args := #[Operand.tmp 62, Operand.tmp 63], argTypes := #[22, 3] }, none⟩,
                                        ⟨some 11, Op.assign (Operand.tmp 64), none⟩])
                                      (.seq
                                        (.region [] false ([]) [
                                          ⟨some 12, Op.assign (Operand.const (Value.int IntKind.i64 1)), none⟩])
                                        (.seq
                                          (.region [67] false ([]) [
                                            ⟨some 65, Op.move (Operand.tmp 9), none⟩,
                                            ⟨some 66, Op.move (Operand.tmp 12), none⟩,
                                            ⟨some 67, Op.call { callee := Callee.value (Operand.func 29), args := #[Operand.tmp 65, Operand.tmp 66], argTypes := #[22, 3] }, none⟩,
                                            ⟨some 12, Op.assign (Operand.tmp 67), none⟩])
                                          (.seq
                                            (.seq
                                              (.region [] false ([]) [
                                                ⟨some 68, Op.move (Operand.tmp 12), none⟩,
                                                ⟨some 69, Op.binOp BinOp.lss 3 (Operand.tmp 68) (Operand.const (Value.int IntKind.i64 0)) 3, none⟩])
                                              (.cond (Operand.tmp 69)
                                                (.seq
                                                  (.region [] false ([]) [
                                                    ⟨some 4, Op.assign (Operand.const (Value.bool false)), none⟩])
                                                  .ret)
                                                .skip))
                                            (.seq
                                              (.seq
                                                (.region [] false ([]) [
                                                  ⟨some 70, Op.move (Operand.tmp 12), none⟩,
                                                  ⟨some 71, Op.move (Operand.tmp 11), none⟩,
                                                  ⟨some 72, Op.binOp BinOp.neq 3 (Operand.tmp 70) (Operand.tmp 71) 3, none⟩])
                                                (.cond (Operand.tmp 72)
                                                  (.seq
                                                    (.region [] false ([]) [
                                                      ⟨some 4, Op.assign (Operand.const (Value.bool false)), none⟩])
                                                    .ret)
                                                  .skip))
                                              (.seq
                                                (.region [74, 76, 77] false ([]) [
                                                  ⟨some 73, Op.load 24 (Operand.tmp 2), none⟩,
                                                  ⟨some 74, Op.call { callee := Callee.value (Operand.func 13), args := #[Operand.tmp 73], argTypes := #[24] }, none⟩,
                                                  ⟨some 75, Op.move (Operand.tmp 1), none⟩,
                                                  ⟨some 76, Op.call { callee := Callee.value (Operand.func 22), args := #[Operand.tmp 75], argTypes := #[22] }, none⟩,
                                                  ⟨some 77, Op.call { callee := Callee.value (Operand.func 31), args := #[Operand.tmp 74, Operand.tmp 76], argTypes := #[27, 22] }, none⟩,
                                                  ⟨some 13, Op.assign (Operand.tmp 77), none⟩])
                                                (.seq
                                                  (.seq
                                                    (.region [80] false ([]) [
                                                      ⟨some 78, Op.move (Operand.tmp 13), none⟩,
                                                      ⟨some 79, Op.move (Operand.tmp 6), none⟩,
                                                      ⟨some 80, Op.call { callee := Callee.value (Operand.func 24), args := #[Operand.tmp 78, Operand.tmp 79], argTypes := #[22, 22] }, none⟩,
                                                      ⟨some 81, Op.unOp UnOp.not 4 (Operand.tmp 80), none⟩])
                                                    (.cond (Operand.tmp 81)
                                                      (.seq
                                                        (.region [] false ([]) [
                                                          ⟨some 4, Op.assign (Operand.const (Value.bool false)), none⟩])
                                                        .ret)
                                                      .skip))
                                                  (.seq
                                                    (.region [] false ([]) [
                                                      ⟨some 4, Op.assign (Operand.const (Value.bool true)), none⟩])
                                                    .ret)))))))))))))))))))))))))
end Cal
