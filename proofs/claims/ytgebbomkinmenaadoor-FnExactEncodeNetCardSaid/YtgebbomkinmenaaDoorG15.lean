/- A part of the proof: a calculus of our own over the model's code, and contracts of the program's functions. -/
import Derived.Test.YtgebbomkinmenaaDoorG13
import Derived.Test.YtgebbomkinmenaaDoorG14
set_option linter.unusedSimpArgs false
set_option linter.unusedVariables false
namespace Cal
open Go Go.Proofs
set_option maxRecDepth 100000
/-- What a size leaves. -/
def leave (left z : Int) : Int := if left < z then -1 else left - z
def lenW (w : Way) : Int := w.nodes.length + w.lens.length
def lenR (r : Rln) : Int := r.via.length
def sumL {α : Type} [Inhabited α] (f : α → Int) (l : List α) : Nat → Int
  | 0 => 0
  | k + 1 => sumL f l k + f (nth l k)
theorem sumL_mono {α : Type} [Inhabited α] {f : α → Int} {l : List α} (h : ∀ x, 0 ≤ f x) {i j : Nat} (hij : i ≤ j) : sumL f l i ≤ sumL f l j := by
  induction j with
  | zero => obtain rfl : i = 0 := by omega
            exact Int.le_refl _
  | succ j ih =>
    rcases Nat.lt_or_ge i (j + 1) with h1 | h1
    · have := ih (by omega)
      have := h (nth l j)
      show sumL f l i ≤ sumL f l j + f (nth l j)
      omega
    · obtain rfl : i = j + 1 := by omega
      exact Int.le_refl _
theorem sumL_nn {α : Type} [Inhabited α] {f : α → Int} {l : List α} (h : ∀ x, 0 ≤ f x) (k : Nat) : 0 ≤ sumL f l k := sumL_mono (i := 0) h (by omega)
/-- The code of laws.szWay. -/
def k57 : Code1 :=
 (.seq
 (.region [2] false ([]) [
 ⟨some 2,Op.box 97 (Operand.tmp 0),none⟩,
 ⟨some 4,Op.assign (Operand.const (Value.int IntKind.i64 0)),none⟩])
 (.seq
 (.region [8] false ([]) [
 ⟨some 5,Op.fieldAddr 97 (Operand.tmp 2) 2,none⟩,
 ⟨some 6,Op.load 22 (Operand.tmp 5),none⟩,
 ⟨some 7,Op.move (Operand.tmp 1),none⟩,
 ⟨some 8,Op.call {callee:=Callee.value (Operand.func 20),args:=#[Operand.tmp 6,Operand.tmp 7],argTypes:=#[22,3]},none⟩,
 ⟨some 1,Op.assign (Operand.tmp 8),none⟩])
 (.seq
 (.seq
 (.region [] false ([]) [
 ⟨some 9,Op.move (Operand.tmp 1),none⟩,
 ⟨some 10,Op.binOp BinOp.lss 3 (Operand.tmp 9) (Operand.const (Value.int IntKind.i64 0)) 3,none⟩])
 (.cond (Operand.tmp 10)
 (.seq
 (.region [] false ([]) [
 ⟨some 4,Op.assign (Operand.const (Value.int IntKind.i64 (-1))),none⟩])
 .ret)
 .skip))
 (.seq
 (.region [14] false ([]) [
 ⟨some 11,Op.fieldAddr 97 (Operand.tmp 2) 3,none⟩,
 ⟨some 12,Op.load 22 (Operand.tmp 11),none⟩,
 ⟨some 13,Op.move (Operand.tmp 1),none⟩,
 ⟨some 14,Op.call {callee:=Callee.value (Operand.func 20),args:=#[Operand.tmp 12,Operand.tmp 13],argTypes:=#[22,3]},none⟩,
 ⟨some 1,Op.assign (Operand.tmp 14),none⟩])
 (.seq
 (.seq
 (.region [] false ([]) [
 ⟨some 15,Op.move (Operand.tmp 1),none⟩,
 ⟨some 16,Op.binOp BinOp.lss 3 (Operand.tmp 15) (Operand.const (Value.int IntKind.i64 0)) 3,none⟩])
 (.cond (Operand.tmp 16)
 (.seq
 (.region [] false ([]) [
 ⟨some 4,Op.assign (Operand.const (Value.int IntKind.i64 (-1))),none⟩])
 .ret)
 .skip))
 (.seq
 (.region [] false ([]) [
 ⟨some 17,Op.move (Operand.tmp 1),none⟩,
 ⟨some 4,Op.assign (Operand.tmp 17),none⟩])
 .ret))))))
theorem szW (w : Way) (left : Int) (g1 : w.nodes.length ≤ 9223372036854775807) (g2 : w.lens.length ≤ 9223372036854775807) (h1 : 0 ≤ left) (h2 : left < 1152921504606846976) :
    CallsF Tryd.prog 57 [.agg (encW w), .val (.v (.int .i64 left))] (.t (.v (.int .i64 (leave left (lenW w))))) [] := by
  refine callsF_of_wp1 (fn := Tryd.f57) (k := k57) (fun _ => []) mixed (by kernel_rfl) rfl (by kernel_rfl) (by kernel_rfl) (by kernel_rfl) rfl (by simp [Tryd.f57]) (by simp [Arg.like]) ?_
  generalize hst : St.enter [.agg (encW w), .val (.v (.int .i64 left))] = st0
  have t0 : st0.tm 0 = .agg ((encW w) |>.map .t) := by rw [← hst]; rfl
  have t1 : st0.tm 1 = .t (.v (.int .i64 left)) := by rw [← hst]; rfl
  clear hst
  unfold k57
  simp [encW] at t0
  have hd : (left < (w.nodes.length : Int)) ∨ ((w.nodes.length : Int) ≤ left ∧ left < (w.nodes.length : Int) + w.lens.length) ∨ ((w.nodes.length : Int) + w.lens.length ≤ left) := by omega
  rcases hd with e | e | e
  all_goals
    repeat' (first
     | refine wp1_seq fun K hK => ?_
     | refine M_cons fun K hK => ?_
     | (refine hK _ ?_; clear hK K)
     | (refine hX _ ?_; clear hX hY X Y)
     | (refine hY _ ?_; clear hX hY X Y)
     | refine wp1_region ?_
     | refine wp1_cond fun X Y hX hY => ?_
     | (refine condK_of (fun c => ?_) (fun c => ?_) <;> (try simp [-List.length_eq_zero_iff] at c))
     | (refine callT_fl (szI_ok _ _ ?_ ?_ ?_) (by simp [St.args, St.arg, t0, t1] <;> first | rfl | ((repeat' first | rfl | apply And.intro); first | done | fail)) ?_; omega; omega; omega)
     | (refine callT_fl (szI_no _ _ ?_ ?_ ?_) (by simp [St.args, St.arg, t0, t1] <;> first | rfl | ((repeat' first | rfl | apply And.intro); first | done | fail)) ?_; omega; omega; omega)
     | simp (maxSteps := 4000000) (disch := omega) [t0, t1])
  all_goals first
    | (have hs : left < lenW w := by (unfold lenW; omega)
       simp [Back, leave, hs]; done)
    | (have hs : ¬ left < lenW w := by (unfold lenW; omega)
       simp [Back, leave, hs]
       unfold lenW
       omega)
/-- The code of laws.szRelation. -/
def k58 : Code1 :=
 (.seq
 (.region [2] false ([]) [
 ⟨some 2,Op.box 99 (Operand.tmp 0),none⟩,
 ⟨some 4,Op.assign (Operand.const (Value.int IntKind.i64 0)),none⟩])
 (.seq
 (.region [8] false ([]) [
 ⟨some 5,Op.fieldAddr 99 (Operand.tmp 2) 6,none⟩,
 ⟨some 6,Op.load 22 (Operand.tmp 5),none⟩,
 ⟨some 7,Op.move (Operand.tmp 1),none⟩,
 ⟨some 8,Op.call {callee:=Callee.value (Operand.func 20),args:=#[Operand.tmp 6,Operand.tmp 7],argTypes:=#[22,3]},none⟩,
 ⟨some 1,Op.assign (Operand.tmp 8),none⟩])
 (.seq
 (.seq
 (.region [] false ([]) [
 ⟨some 9,Op.move (Operand.tmp 1),none⟩,
 ⟨some 10,Op.binOp BinOp.lss 3 (Operand.tmp 9) (Operand.const (Value.int IntKind.i64 0)) 3,none⟩])
 (.cond (Operand.tmp 10)
 (.seq
 (.region [] false ([]) [
 ⟨some 4,Op.assign (Operand.const (Value.int IntKind.i64 (-1))),none⟩])
 .ret)
 .skip))
 (.seq
 (.region [] false ([]) [
 ⟨some 11,Op.move (Operand.tmp 1),none⟩,
 ⟨some 4,Op.assign (Operand.tmp 11),none⟩])
 .ret))))
theorem szR (r : Rln) (left : Int) (g1 : r.via.length ≤ 9223372036854775807) (h1 : 0 ≤ left) (h2 : left < 1152921504606846976) :
    CallsF Tryd.prog 58 [.agg (encR r), .val (.v (.int .i64 left))] (.t (.v (.int .i64 (leave left (lenR r))))) [] := by
  refine callsF_of_wp1 (fn := Tryd.f58) (k := k58) (fun _ => []) mixed (by kernel_rfl) rfl (by kernel_rfl) (by kernel_rfl) (by kernel_rfl) rfl (by simp [Tryd.f58]) (by simp [Arg.like]) ?_
  generalize hst : St.enter [.agg (encR r), .val (.v (.int .i64 left))] = st0
  have t0 : st0.tm 0 = .agg ((encR r) |>.map .t) := by rw [← hst]; rfl
  have t1 : st0.tm 1 = .t (.v (.int .i64 left)) := by rw [← hst]; rfl
  clear hst
  unfold k58
  simp [encR] at t0
  have hd : (left < (r.via.length : Int)) ∨ ((r.via.length : Int) ≤ left) := by omega
  rcases hd with e | e
  all_goals
    repeat' (first
     | refine wp1_seq fun K hK => ?_
     | refine M_cons fun K hK => ?_
     | (refine hK _ ?_; clear hK K)
     | (refine hX _ ?_; clear hX hY X Y)
     | (refine hY _ ?_; clear hX hY X Y)
     | refine wp1_region ?_
     | refine wp1_cond fun X Y hX hY => ?_
     | (refine condK_of (fun c => ?_) (fun c => ?_) <;> (try simp [-List.length_eq_zero_iff] at c))
     | (refine callT_fl (szI_ok _ _ ?_ ?_ ?_) (by simp [St.args, St.arg, t0, t1] <;> first | rfl | ((repeat' first | rfl | apply And.intro); first | done | fail)) ?_; omega; omega; omega)
     | (refine callT_fl (szI_no _ _ ?_ ?_ ?_) (by simp [St.args, St.arg, t0, t1] <;> first | rfl | ((repeat' first | rfl | apply And.intro); first | done | fail)) ?_; omega; omega; omega)
     | simp (maxSteps := 4000000) (disch := omega) [t0, t1])
  all_goals first
    | (have hs : left < lenR r := by (unfold lenR; omega)
       simp [Back, leave, hs]; done)
    | (have hs : ¬ left < lenR r := by (unfold lenR; omega)
       simp [Back, leave, hs]
       unfold lenR
       omega)
/-- The code of laws.szTurnCostS. -/
def k23 : Code1 :=
 (.seq
 (.region [] false ([]) [
 ⟨some 4,Op.assign (Operand.const (Value.int IntKind.i64 0)),none⟩])
 (.seq
 (.region [] false ([]) [
 ⟨some 5,Op.move (Operand.tmp 1),none⟩,
 ⟨some 6,Op.move (Operand.tmp 0),none⟩,
 ⟨some 7,Op.call {callee:=Callee.builtin Builtin.len,args:=#[Operand.tmp 6],argTypes:=#[25]},none⟩,
 ⟨some 8,Op.binOp BinOp.sub 3 (Operand.tmp 5) (Operand.tmp 7) 3,none⟩,
 ⟨some 1,Op.assign (Operand.tmp 8),none⟩])
 (.seq
 (.seq
 (.region [] false ([]) [
 ⟨some 9,Op.move (Operand.tmp 1),none⟩,
 ⟨some 10,Op.binOp BinOp.lss 3 (Operand.tmp 9) (Operand.const (Value.int IntKind.i64 0)) 3,none⟩])
 (.cond (Operand.tmp 10)
 (.seq
 (.region [] false ([]) [
 ⟨some 4,Op.assign (Operand.const (Value.int IntKind.i64 (-1))),none⟩])
 .ret)
 .skip))
 (.seq
 (.region [] false ([]) [
 ⟨some 11,Op.move (Operand.tmp 1),none⟩,
 ⟨some 4,Op.assign (Operand.tmp 11),none⟩])
 .ret))))
theorem szC (l : List Tc) (left : Int) (g1 : l.length ≤ 9223372036854775807) (h1 : 0 ≤ left) (h2 : left < 1152921504606846976) :
    CallsF Tryd.prog 23 [.val (recs encC l), .val (.v (.int .i64 left))] (.t (.v (.int .i64 (leave left l.length)))) [] := by
  refine callsF_of_wp1 (fn := Tryd.f23) (k := k23) (fun _ => []) mixed (by kernel_rfl) rfl (by kernel_rfl) (by kernel_rfl) (by kernel_rfl) rfl (by simp [Tryd.f23]) (by simp [Arg.like]) ?_
  generalize hst : St.enter [.val (recs encC l), .val (.v (.int .i64 left))] = st0
  have t0 : st0.tm 0 = .t (recs encC l) := by rw [← hst]; rfl
  have t1 : st0.tm 1 = .t (.v (.int .i64 left)) := by rw [← hst]; rfl
  clear hst
  unfold k23
  by_cases e : left < (l.length : Int)
  · repeat' (first
   | refine wp1_seq fun K hK => ?_
   | refine M_cons fun K hK => ?_
   | (refine hK _ ?_; clear hK K)
   | (refine hX _ ?_; clear hX hY X Y)
   | (refine hY _ ?_; clear hX hY X Y)
   | refine wp1_region ?_
   | refine wp1_cond fun X Y hX hY => ?_
   | (refine condK_of (fun c => ?_) (fun c => ?_) <;> (try simp [-List.length_eq_zero_iff] at c))
   | simp (maxSteps := 4000000) (disch := omega) [t0, t1, leave, e])
    all_goals try (simp [t0, t1, leave, e, Back]; done)
    all_goals omega
  · repeat' (first
   | refine wp1_seq fun K hK => ?_
   | refine M_cons fun K hK => ?_
   | (refine hK _ ?_; clear hK K)
   | (refine hX _ ?_; clear hX hY X Y)
   | (refine hY _ ?_; clear hX hY X Y)
   | refine wp1_region ?_
   | refine wp1_cond fun X Y hX hY => ?_
   | (refine condK_of (fun c => ?_) (fun c => ?_) <;> (try simp [-List.length_eq_zero_iff] at c))
   | simp (maxSteps := 4000000) (disch := omega) [t0, t1, leave, e])
    all_goals try (simp [t0, t1, leave, e, Back]; done)
    all_goals omega
/-- The code of laws.szWayS. -/
def k21 : Code1 :=
 (.seq
 (.region [] false ([]) [
 ⟨some 4,Op.assign (Operand.const (Value.int IntKind.i64 0)),none⟩])
 (.seq
 (.region [] false ([]) [
 ⟨some 6,Op.move (Operand.tmp 1),none⟩,
 ⟨some 7,Op.move (Operand.tmp 0),none⟩,
 ⟨some 8,Op.call {callee:=Callee.builtin Builtin.len,args:=#[Operand.tmp 7],argTypes:=#[23]},none⟩,
 ⟨some 9,Op.binOp BinOp.sub 3 (Operand.tmp 6) (Operand.tmp 8) 3,none⟩,
 ⟨some 1,Op.assign (Operand.tmp 9),none⟩])
 (.seq
 (.seq
 (.region [] false ([]) [
 ⟨some 10,Op.move (Operand.tmp 1),none⟩,
 ⟨some 11,Op.binOp BinOp.lss 3 (Operand.tmp 10) (Operand.const (Value.int IntKind.i64 0)) 3,none⟩])
 (.cond (Operand.tmp 11)
 (.seq
 (.region [] false ([]) [
 ⟨some 4,Op.assign (Operand.const (Value.int IntKind.i64 (-1))),none⟩])
 .ret)
 .skip))
 (.seq
 (.seq
 (.region [] false ([]) [
 ⟨some 5,Op.assign (Operand.const (Value.int IntKind.i64 0)),none⟩])
 (.block 0
 (.loop
 (.seq
 (.seq
 (.region [] false ([]) [
 ⟨some 12,Op.move (Operand.tmp 5),none⟩,
 ⟨some 13,Op.move (Operand.tmp 0),none⟩,
 ⟨some 14,Op.call {callee:=Callee.builtin Builtin.len,args:=#[Operand.tmp 13],argTypes:=#[23]},none⟩,
 ⟨some 15,Op.binOp BinOp.lss 3 (Operand.tmp 12) (Operand.tmp 14) 3,none⟩])
 (.cond (Operand.tmp 15)
 .skip
 (.exit 0)))
 (.seq
 (.block 1
 (.seq
 (.region [23] false ([]) [
 ⟨some 18,Op.move (Operand.tmp 0),none⟩,
 ⟨some 19,Op.move (Operand.tmp 5),none⟩,
 ⟨some 20,Op.indexAddr 23 (Operand.tmp 18) (Operand.tmp 19),none⟩,
 ⟨some 21,Op.load 97 (Operand.tmp 20),none⟩,
 ⟨some 22,Op.move (Operand.tmp 1),none⟩,
 ⟨some 23,Op.call {callee:=Callee.value (Operand.func 57),args:=#[Operand.tmp 21,Operand.tmp 22],argTypes:=#[97,3]},none⟩,
 ⟨some 1,Op.assign (Operand.tmp 23),none⟩])
 (.seq
 (.region [] false ([]) [
 ⟨some 24,Op.move (Operand.tmp 1),none⟩,
 ⟨some 25,Op.binOp BinOp.lss 3 (Operand.tmp 24) (Operand.const (Value.int IntKind.i64 0)) 3,none⟩])
 (.cond (Operand.tmp 25)
 (.seq
 (.region [] false ([]) [
 ⟨some 4,Op.assign (Operand.const (Value.int IntKind.i64 (-1))),none⟩])
 .ret)
 .skip))))
 (.region [] false ([]) [
 ⟨some 16,Op.move (Operand.tmp 5),none⟩,
 ⟨some 17,Op.binOp BinOp.add 3 (Operand.tmp 16) (Operand.const (Value.int IntKind.i64 1)) 3,none⟩,
 ⟨some 5,Op.assign (Operand.tmp 17),none⟩]))))))
 (.seq
 (.region [] false ([]) [
 ⟨some 26,Op.move (Operand.tmp 1),none⟩,
 ⟨some 4,Op.assign (Operand.tmp 26),none⟩])
 .ret)))))
theorem szWs (l : List Way) (left : Int) (g0 : l.length ≤ 9223372036854775807) (g : ∀ i : Nat, i < l.length → (nth l i).nodes.length ≤ 9223372036854775807 ∧ (nth l i).lens.length ≤ 9223372036854775807) (h1 : 0 ≤ left) (h2 : left < 1152921504606846976) :
    CallsF Tryd.prog 21 [.val (recs encW l), .val (.v (.int .i64 left))] (.t (.v (.int .i64 (leave left (l.length + sumL lenW l l.length))))) [] := by
  have nn : ∀ w : Way, 0 ≤ lenW w := fun w => by unfold lenW; omega
  refine callsF_of_wp1 (fn := Tryd.f21) (k := k21) (fun _ => []) mixed (by kernel_rfl) rfl (by kernel_rfl) (by kernel_rfl) (by kernel_rfl) rfl (by simp [Tryd.f21]) (by simp [Arg.like]) ?_
  generalize hst : St.enter [.val (recs encW l), .val (.v (.int .i64 left))] = st0
  have t0 : st0.tm 0 = .t (recs encW l) := by rw [← hst]; rfl
  have t1 : st0.tm 1 = .t (.v (.int .i64 left)) := by rw [← hst]; rfl
  clear hst
  unfold k21
  by_cases e : left < (l.length : Int)
  · have := sumL_nn (l := l) nn l.length
    have e2 : leave left (l.length + sumL lenW l l.length) = -1 := if_pos (by omega)
    repeat' (first
     | refine wp1_seq fun K hK => ?_
     | refine M_cons fun K hK => ?_
     | (refine hK _ ?_; clear hK K)
     | (refine hX _ ?_; clear hX hY X Y)
     | (refine hY _ ?_; clear hX hY X Y)
     | refine wp1_block ?_
     | refine wp1_region ?_
     | refine wp1_cond fun X Y hX hY => ?_
     | (refine condK_of (fun c => ?_) (fun c => ?_) <;> (try simp [-List.length_eq_zero_iff] at c))
     | simp (maxSteps := 4000000) (disch := omega) [t0, t1, e2])
    all_goals try (simp [t0, t1, e2, Back]; done)
    all_goals omega
  · repeat' (first
   | refine wp1_seq fun K hK => ?_
   | refine M_cons fun K hK => ?_
   | (refine hK _ ?_; clear hK K)
   | (refine hX _ ?_; clear hX hY X Y)
   | (refine hY _ ?_; clear hX hY X Y)
   | refine wp1_block ?_
   | refine wp1_region ?_
   | refine wp1_cond fun X Y hX hY => ?_
   | (refine condK_of (fun c => ?_) (fun c => ?_) <;> (try simp [-List.length_eq_zero_iff] at c))
   | simp (maxSteps := 4000000) (disch := omega) [t0, t1])
    all_goals first | omega | skip
    have hJ : ∀ s, s.tm 1 = .t (.v (.int .i64 (leave left (l.length + sumL lenW l l.length)))) → K s := by
      intro s s1
      repeat' (first
       | refine wp1_seq fun K hK => ?_
       | refine M_cons fun K hK => ?_
       | (refine hK _ ?_; clear hK K)
       | refine wp1_region ?_
       | simp (maxSteps := 4000000) (disch := omega) [s1])
      all_goals try (simp [s1, Back]; done)
    clear hK
    refine wp1_loop (fun m s => ∃ k : Nat, s.tm 0 = .t (recs encW l) ∧ s.tm 1 = .t (.v (.int .i64 (left - l.length - sumL lenW l k))) ∧ s.tm 5 = .t (.v (.int .i64 k)) ∧ k ≤ l.length ∧ m = l.length - k ∧ 0 ≤ left - l.length - sumL lenW l k) l.length ?_ ?_
    · refine ⟨0, ?_⟩
      simp [t0, sumL]
      omega
    · rintro m s ⟨k, s0, s1, s5, hk, rfl, hq⟩ K' hK'
      by_cases hlt : k < l.length
      · have q := sumL_nn (l := l) nn k
        obtain ⟨gk1, gk2⟩ := g k hlt
        have sm := sumL_mono (l := l) nn (show k + 1 ≤ l.length by omega)
        have e3 : sumL lenW l (k + 1) = sumL lenW l k + lenW (nth l k) := rfl
        have n3 := nn (nth l k)
        by_cases e4 : left - l.length - sumL lenW l k < lenW (nth l k)
        · have e5 : leave (left - l.length - sumL lenW l k) (lenW (nth l k)) = -1 := if_pos e4
          have e2 : leave left (l.length + sumL lenW l l.length) = -1 := if_pos (by omega)
          repeat' (first
           | refine wp1_seq fun K hK => ?_
           | refine M_cons fun K hK => ?_
           | (refine hK _ ?_; clear hK K)
           | (refine hX _ ?_; clear hX hY X Y)
           | (refine hY _ ?_; clear hX hY X Y)
           | refine wp1_block ?_
           | refine wp1_region ?_
           | refine wp1_cond fun X Y hX hY => ?_
           | (refine condK_of (fun c => ?_) (fun c => ?_) <;> (try simp [-List.length_eq_zero_iff] at c))
           | (refine callT_fl (szW _ _ ?_ ?_ ?_ ?_) (by simp [St.args, St.arg, s0, s1, s5, encW, e5] <;> first | rfl | ((repeat' first | rfl | apply And.intro); first | done | fail)) ?_; omega; omega; omega; omega)
           | simp (maxSteps := 4000000) (disch := omega) [s0, s1, s5, encW, e5])
          all_goals first
            | omega
            | (simp [Back, e2]; done)
            | skip
        · have e5 : leave (left - l.length - sumL lenW l k) (lenW (nth l k)) = left - l.length - sumL lenW l k - lenW (nth l k) := if_neg e4
          repeat' (first
           | refine wp1_seq fun K hK => ?_
           | refine M_cons fun K hK => ?_
           | (refine hK _ ?_; clear hK K)
           | (refine hX _ ?_; clear hX hY X Y)
           | (refine hY _ ?_; clear hX hY X Y)
           | refine wp1_block ?_
           | refine wp1_region ?_
           | refine wp1_cond fun X Y hX hY => ?_
           | (refine condK_of (fun c => ?_) (fun c => ?_) <;> (try simp [-List.length_eq_zero_iff] at c))
           | (refine callT_fl (szW _ _ ?_ ?_ ?_ ?_) (by simp [St.args, St.arg, s0, s1, s5, encW, e5] <;> first | rfl | ((repeat' first | rfl | apply And.intro); first | done | fail)) ?_; omega; omega; omega; omega)
           | simp (maxSteps := 4000000) (disch := omega) [s0, s1, s5, encW, e5])
          all_goals first
            | omega
            | (refine hK' (l.length - (k + 1)) _ (by omega) ⟨k + 1, ?_⟩
               simp [s0, s5, e3]
               omega)
            | skip
      · have hkl : k = l.length := by omega
        subst hkl
        repeat' (first
         | refine wp1_seq fun K hK => ?_
         | refine M_cons fun K hK => ?_
         | (refine hK _ ?_; clear hK K)
         | (refine hY _ ?_; clear hX hY X Y)
         | refine wp1_region ?_
         | refine wp1_cond fun X Y hX hY => ?_
         | (refine condK_of (fun c => ?_) (fun c => ?_) <;> (try simp [-List.length_eq_zero_iff] at c))
         | simp (maxSteps := 4000000) (disch := omega) [s0, s1, s5])
        all_goals first
          | omega
          | (refine hJ _ ?_
             simp [s1, leave]
             rw [if_neg (by omega)]
             omega)
end Cal

set_option linter.unusedSimpArgs false
set_option linter.unusedVariables false
namespace Cal
open Go Go.Proofs
set_option maxRecDepth 100000
/-- The code of laws.szRelationS. -/
def k22 : Code1 :=
 (.seq
 (.region [] false ([]) [
 ⟨some 4,Op.assign (Operand.const (Value.int IntKind.i64 0)),none⟩])
 (.seq
 (.region [] false ([]) [
 ⟨some 6,Op.move (Operand.tmp 1),none⟩,
 ⟨some 7,Op.move (Operand.tmp 0),none⟩,
 ⟨some 8,Op.call {callee:=Callee.builtin Builtin.len,args:=#[Operand.tmp 7],argTypes:=#[24]},none⟩,
 ⟨some 9,Op.binOp BinOp.sub 3 (Operand.tmp 6) (Operand.tmp 8) 3,none⟩,
 ⟨some 1,Op.assign (Operand.tmp 9),none⟩])
 (.seq
 (.seq
 (.region [] false ([]) [
 ⟨some 10,Op.move (Operand.tmp 1),none⟩,
 ⟨some 11,Op.binOp BinOp.lss 3 (Operand.tmp 10) (Operand.const (Value.int IntKind.i64 0)) 3,none⟩])
 (.cond (Operand.tmp 11)
 (.seq
 (.region [] false ([]) [
 ⟨some 4,Op.assign (Operand.const (Value.int IntKind.i64 (-1))),none⟩])
 .ret)
 .skip))
 (.seq
 (.seq
 (.region [] false ([]) [
 ⟨some 5,Op.assign (Operand.const (Value.int IntKind.i64 0)),none⟩])
 (.block 0
 (.loop
 (.seq
 (.seq
 (.region [] false ([]) [
 ⟨some 12,Op.move (Operand.tmp 5),none⟩,
 ⟨some 13,Op.move (Operand.tmp 0),none⟩,
 ⟨some 14,Op.call {callee:=Callee.builtin Builtin.len,args:=#[Operand.tmp 13],argTypes:=#[24]},none⟩,
 ⟨some 15,Op.binOp BinOp.lss 3 (Operand.tmp 12) (Operand.tmp 14) 3,none⟩])
 (.cond (Operand.tmp 15)
 .skip
 (.exit 0)))
 (.seq
 (.block 1
 (.seq
 (.region [23] false ([]) [
 ⟨some 18,Op.move (Operand.tmp 0),none⟩,
 ⟨some 19,Op.move (Operand.tmp 5),none⟩,
 ⟨some 20,Op.indexAddr 24 (Operand.tmp 18) (Operand.tmp 19),none⟩,
 ⟨some 21,Op.load 99 (Operand.tmp 20),none⟩,
 ⟨some 22,Op.move (Operand.tmp 1),none⟩,
 ⟨some 23,Op.call {callee:=Callee.value (Operand.func 58),args:=#[Operand.tmp 21,Operand.tmp 22],argTypes:=#[99,3]},none⟩,
 ⟨some 1,Op.assign (Operand.tmp 23),none⟩])
 (.seq
 (.region [] false ([]) [
 ⟨some 24,Op.move (Operand.tmp 1),none⟩,
 ⟨some 25,Op.binOp BinOp.lss 3 (Operand.tmp 24) (Operand.const (Value.int IntKind.i64 0)) 3,none⟩])
 (.cond (Operand.tmp 25)
 (.seq
 (.region [] false ([]) [
 ⟨some 4,Op.assign (Operand.const (Value.int IntKind.i64 (-1))),none⟩])
 .ret)
 .skip))))
 (.region [] false ([]) [
 ⟨some 16,Op.move (Operand.tmp 5),none⟩,
 ⟨some 17,Op.binOp BinOp.add 3 (Operand.tmp 16) (Operand.const (Value.int IntKind.i64 1)) 3,none⟩,
 ⟨some 5,Op.assign (Operand.tmp 17),none⟩]))))))
 (.seq
 (.region [] false ([]) [
 ⟨some 26,Op.move (Operand.tmp 1),none⟩,
 ⟨some 4,Op.assign (Operand.tmp 26),none⟩])
 .ret)))))
theorem szRs (l : List Rln) (left : Int) (g0 : l.length ≤ 9223372036854775807) (g : ∀ i : Nat, i < l.length → (nth l i).via.length ≤ 9223372036854775807) (h1 : 0 ≤ left) (h2 : left < 1152921504606846976) :
    CallsF Tryd.prog 22 [.val (recs encR l), .val (.v (.int .i64 left))] (.t (.v (.int .i64 (leave left (l.length + sumL lenR l l.length))))) [] := by
  have nn : ∀ w : Rln, 0 ≤ lenR w := fun w => by unfold lenR; omega
  refine callsF_of_wp1 (fn := Tryd.f22) (k := k22) (fun _ => []) mixed (by kernel_rfl) rfl (by kernel_rfl) (by kernel_rfl) (by kernel_rfl) rfl (by simp [Tryd.f22]) (by simp [Arg.like]) ?_
  generalize hst : St.enter [.val (recs encR l), .val (.v (.int .i64 left))] = st0
  have t0 : st0.tm 0 = .t (recs encR l) := by rw [← hst]; rfl
  have t1 : st0.tm 1 = .t (.v (.int .i64 left)) := by rw [← hst]; rfl
  clear hst
  unfold k22
  by_cases e : left < (l.length : Int)
  · have := sumL_nn (l := l) nn l.length
    have e2 : leave left (l.length + sumL lenR l l.length) = -1 := if_pos (by omega)
    repeat' (first
     | refine wp1_seq fun K hK => ?_
     | refine M_cons fun K hK => ?_
     | (refine hK _ ?_; clear hK K)
     | (refine hX _ ?_; clear hX hY X Y)
     | (refine hY _ ?_; clear hX hY X Y)
     | refine wp1_block ?_
     | refine wp1_region ?_
     | refine wp1_cond fun X Y hX hY => ?_
     | (refine condK_of (fun c => ?_) (fun c => ?_) <;> (try simp [-List.length_eq_zero_iff] at c))
     | simp (maxSteps := 4000000) (disch := omega) [t0, t1, e2])
    all_goals try (simp [t0, t1, e2, Back]; done)
    all_goals omega
  · repeat' (first
   | refine wp1_seq fun K hK => ?_
   | refine M_cons fun K hK => ?_
   | (refine hK _ ?_; clear hK K)
   | (refine hX _ ?_; clear hX hY X Y)
   | (refine hY _ ?_; clear hX hY X Y)
   | refine wp1_block ?_
   | refine wp1_region ?_
   | refine wp1_cond fun X Y hX hY => ?_
   | (refine condK_of (fun c => ?_) (fun c => ?_) <;> (try simp [-List.length_eq_zero_iff] at c))
   | simp (maxSteps := 4000000) (disch := omega) [t0, t1])
    all_goals first | omega | skip
    have hJ : ∀ s, s.tm 1 = .t (.v (.int .i64 (leave left (l.length + sumL lenR l l.length)))) → K s := by
      intro s s1
      repeat' (first
       | refine wp1_seq fun K hK => ?_
       | refine M_cons fun K hK => ?_
       | (refine hK _ ?_; clear hK K)
       | refine wp1_region ?_
       | simp (maxSteps := 4000000) (disch := omega) [s1])
      all_goals try (simp [s1, Back]; done)
    clear hK
    refine wp1_loop (fun m s => ∃ k : Nat, s.tm 0 = .t (recs encR l) ∧ s.tm 1 = .t (.v (.int .i64 (left - l.length - sumL lenR l k))) ∧ s.tm 5 = .t (.v (.int .i64 k)) ∧ k ≤ l.length ∧ m = l.length - k ∧ 0 ≤ left - l.length - sumL lenR l k) l.length ?_ ?_
    · refine ⟨0, ?_⟩
      simp [t0, sumL]
      omega
    · rintro m s ⟨k, s0, s1, s5, hk, rfl, hq⟩ K' hK'
      by_cases hlt : k < l.length
      · have q := sumL_nn (l := l) nn k
        have gk1 := g k hlt
        have sm := sumL_mono (l := l) nn (show k + 1 ≤ l.length by omega)
        have e3 : sumL lenR l (k + 1) = sumL lenR l k + lenR (nth l k) := rfl
        have n3 := nn (nth l k)
        by_cases e4 : left - l.length - sumL lenR l k < lenR (nth l k)
        · have e5 : leave (left - l.length - sumL lenR l k) (lenR (nth l k)) = -1 := if_pos e4
          have e2 : leave left (l.length + sumL lenR l l.length) = -1 := if_pos (by omega)
          repeat' (first
           | refine wp1_seq fun K hK => ?_
           | refine M_cons fun K hK => ?_
           | (refine hK _ ?_; clear hK K)
           | (refine hX _ ?_; clear hX hY X Y)
           | (refine hY _ ?_; clear hX hY X Y)
           | refine wp1_block ?_
           | refine wp1_region ?_
           | refine wp1_cond fun X Y hX hY => ?_
           | (refine condK_of (fun c => ?_) (fun c => ?_) <;> (try simp [-List.length_eq_zero_iff] at c))
           | (refine callT_fl (szR _ _ ?_ ?_ ?_) (by simp [St.args, St.arg, s0, s1, s5, encR, e5] <;> first | rfl | ((repeat' first | rfl | apply And.intro); first | done | fail)) ?_; omega; omega; omega)
           | simp (maxSteps := 4000000) (disch := omega) [s0, s1, s5, encR, e5])
          all_goals first
            | omega
            | (simp [Back, e2]; done)
            | skip
        · have e5 : leave (left - l.length - sumL lenR l k) (lenR (nth l k)) = left - l.length - sumL lenR l k - lenR (nth l k) := if_neg e4
          repeat' (first
           | refine wp1_seq fun K hK => ?_
           | refine M_cons fun K hK => ?_
           | (refine hK _ ?_; clear hK K)
           | (refine hX _ ?_; clear hX hY X Y)
           | (refine hY _ ?_; clear hX hY X Y)
           | refine wp1_block ?_
           | refine wp1_region ?_
           | refine wp1_cond fun X Y hX hY => ?_
           | (refine condK_of (fun c => ?_) (fun c => ?_) <;> (try simp [-List.length_eq_zero_iff] at c))
           | (refine callT_fl (szR _ _ ?_ ?_ ?_) (by simp [St.args, St.arg, s0, s1, s5, encR, e5] <;> first | rfl | ((repeat' first | rfl | apply And.intro); first | done | fail)) ?_; omega; omega; omega)
           | simp (maxSteps := 4000000) (disch := omega) [s0, s1, s5, encR, e5])
          all_goals first
            | omega
            | (refine hK' (l.length - (k + 1)) _ (by omega) ⟨k + 1, ?_⟩
               simp [s0, s5, e3]
               omega)
            | skip
      · have hkl : k = l.length := by omega
        subst hkl
        repeat' (first
         | refine wp1_seq fun K hK => ?_
         | refine M_cons fun K hK => ?_
         | (refine hK _ ?_; clear hK K)
         | (refine hY _ ?_; clear hX hY X Y)
         | refine wp1_region ?_
         | refine wp1_cond fun X Y hX hY => ?_
         | (refine condK_of (fun c => ?_) (fun c => ?_) <;> (try simp [-List.length_eq_zero_iff] at c))
         | simp (maxSteps := 4000000) (disch := omega) [s0, s1, s5])
        all_goals first
          | omega
          | (refine hJ _ ?_
             simp [s1, leave]
             rw [if_neg (by omega)]
             omega)
/-- All lists of a network are small enough for lengths. -/
structure smallN (n : Net) : Prop where
  nd : n.nodes.length ≤ 9223372036854775807
  w : n.ways.length ≤ 9223372036854775807
  r : n.rels.length ≤ 9223372036854775807
  t : n.tcs.length ≤ 9223372036854775807
  ww : ∀ i : Nat, i < n.ways.length → (nth n.ways i).nodes.length ≤ 9223372036854775807 ∧ (nth n.ways i).lens.length ≤ 9223372036854775807
  rv : ∀ i : Nat, i < n.rels.length → (nth n.rels i).via.length ≤ 9223372036854775807
def sizeW (n : Net) : Int := n.ways.length + sumL lenW n.ways n.ways.length
def sizeR (n : Net) : Int := n.rels.length + sumL lenR n.rels n.rels.length
def sumN (n : Net) : Int := n.nodes.length + sizeW n + sizeR n + n.tcs.length
/-- The code of laws.szNet. -/
def k5 : Code1 :=
 (.seq
 (.region [2] false ([]) [
 ⟨some 2,Op.box 27 (Operand.tmp 0),none⟩,
 ⟨some 4,Op.assign (Operand.const (Value.int IntKind.i64 0)),none⟩])
 (.seq
 (.region [8] false ([]) [
 ⟨some 5,Op.fieldAddr 27 (Operand.tmp 2) 0,none⟩,
 ⟨some 6,Op.load 22 (Operand.tmp 5),none⟩,
 ⟨some 7,Op.move (Operand.tmp 1),none⟩,
 ⟨some 8,Op.call {callee:=Callee.value (Operand.func 20),args:=#[Operand.tmp 6,Operand.tmp 7],argTypes:=#[22,3]},none⟩,
 ⟨some 1,Op.assign (Operand.tmp 8),none⟩])
 (.seq
 (.seq
 (.region [] false ([]) [
 ⟨some 9,Op.move (Operand.tmp 1),none⟩,
 ⟨some 10,Op.binOp BinOp.lss 3 (Operand.tmp 9) (Operand.const (Value.int IntKind.i64 0)) 3,none⟩])
 (.cond (Operand.tmp 10)
 (.seq
 (.region [] false ([]) [
 ⟨some 4,Op.assign (Operand.const (Value.int IntKind.i64 (-1))),none⟩])
 .ret)
 .skip))
 (.seq
 (.region [14] false ([]) [
 ⟨some 11,Op.fieldAddr 27 (Operand.tmp 2) 1,none⟩,
 ⟨some 12,Op.load 23 (Operand.tmp 11),none⟩,
 ⟨some 13,Op.move (Operand.tmp 1),none⟩,
 ⟨some 14,Op.call {callee:=Callee.value (Operand.func 21),args:=#[Operand.tmp 12,Operand.tmp 13],argTypes:=#[23,3]},none⟩,
 ⟨some 1,Op.assign (Operand.tmp 14),none⟩])
 (.seq
 (.seq
 (.region [] false ([]) [
 ⟨some 15,Op.move (Operand.tmp 1),none⟩,
 ⟨some 16,Op.binOp BinOp.lss 3 (Operand.tmp 15) (Operand.const (Value.int IntKind.i64 0)) 3,none⟩])
 (.cond (Operand.tmp 16)
 (.seq
 (.region [] false ([]) [
 ⟨some 4,Op.assign (Operand.const (Value.int IntKind.i64 (-1))),none⟩])
 .ret)
 .skip))
 (.seq
 (.region [20] false ([]) [
 ⟨some 17,Op.fieldAddr 27 (Operand.tmp 2) 2,none⟩,
 ⟨some 18,Op.load 24 (Operand.tmp 17),none⟩,
 ⟨some 19,Op.move (Operand.tmp 1),none⟩,
 ⟨some 20,Op.call {callee:=Callee.value (Operand.func 22),args:=#[Operand.tmp 18,Operand.tmp 19],argTypes:=#[24,3]},none⟩,
 ⟨some 1,Op.assign (Operand.tmp 20),none⟩])
 (.seq
 (.seq
 (.region [] false ([]) [
 ⟨some 21,Op.move (Operand.tmp 1),none⟩,
 ⟨some 22,Op.binOp BinOp.lss 3 (Operand.tmp 21) (Operand.const (Value.int IntKind.i64 0)) 3,none⟩])
 (.cond (Operand.tmp 22)
 (.seq
 (.region [] false ([]) [
 ⟨some 4,Op.assign (Operand.const (Value.int IntKind.i64 (-1))),none⟩])
 .ret)
 .skip))
 (.seq
 (.region [26] false ([]) [
 ⟨some 23,Op.fieldAddr 27 (Operand.tmp 2) 3,none⟩,
 ⟨some 24,Op.load 25 (Operand.tmp 23),none⟩,
 ⟨some 25,Op.move (Operand.tmp 1),none⟩,
 ⟨some 26,Op.call {callee:=Callee.value (Operand.func 23),args:=#[Operand.tmp 24,Operand.tmp 25],argTypes:=#[25,3]},none⟩,
 ⟨some 1,Op.assign (Operand.tmp 26),none⟩])
 (.seq
 (.seq
 (.region [] false ([]) [
 ⟨some 27,Op.move (Operand.tmp 1),none⟩,
 ⟨some 28,Op.binOp BinOp.lss 3 (Operand.tmp 27) (Operand.const (Value.int IntKind.i64 0)) 3,none⟩])
 (.cond (Operand.tmp 28)
 (.seq
 (.region [] false ([]) [
 ⟨some 4,Op.assign (Operand.const (Value.int IntKind.i64 (-1))),none⟩])
 .ret)
 .skip))
 (.seq
 (.region [] false ([]) [
 ⟨some 29,Op.move (Operand.tmp 1),none⟩,
 ⟨some 4,Op.assign (Operand.tmp 29),none⟩])
 .ret))))))))))
set_option maxHeartbeats 1000000 in
theorem szN (n : Net) (left : Int) (hg : smallN n) (h1 : 0 ≤ left) (h2 : left < 1152921504606846976) :
    CallsF Tryd.prog 5 [.agg (encN n), .val (.v (.int .i64 left))] (.t (.v (.int .i64 (leave left (sumN n))))) [] := by
  obtain ⟨g1, g2, g3, g4, g5, g6⟩ := hg
  have w0 : 0 ≤ sizeW n := by
    have := sumL_nn (l := n.ways) (f := lenW) (fun w => by unfold lenW; omega) n.ways.length
    unfold sizeW; omega
  have r0 : 0 ≤ sizeR n := by
    have := sumL_nn (l := n.rels) (f := lenR) (fun w => by unfold lenR; omega) n.rels.length
    unfold sizeR; omega
  have ew : (n.ways.length : Int) + sumL lenW n.ways n.ways.length = sizeW n := rfl
  have er : (n.rels.length : Int) + sumL lenR n.rels n.rels.length = sizeR n := rfl
  refine callsF_of_wp1 (fn := Tryd.f5) (k := k5) (fun _ => []) mixed (by kernel_rfl) rfl (by kernel_rfl) (by kernel_rfl) (by kernel_rfl) rfl (by simp [Tryd.f5]) (by simp [Arg.like]) ?_
  generalize hst : St.enter [.agg (encN n), .val (.v (.int .i64 left))] = st0
  have t0 : st0.tm 0 = .agg ((encN n) |>.map .t) := by rw [← hst]; rfl
  have t1 : st0.tm 1 = .t (.v (.int .i64 left)) := by rw [← hst]; rfl
  clear hst
  unfold k5
  simp [encN] at t0
  have szWn := fun left h1 h2 => szWs n.ways left g2 g5 h1 h2
  have szRn := fun left h1 h2 => szRs n.rels left g3 g6 h1 h2
  rw [ew] at szWn
  rw [er] at szRn
  by_cases e1 : left < (n.nodes.length : Int)
  · have e : leave left (sumN n) = -1 := if_pos (by unfold sumN; omega)
    repeat' (first
     | refine wp1_seq fun K hK => ?_
     | refine M_cons fun K hK => ?_
     | (refine hK _ ?_; clear hK K)
     | (refine hX _ ?_; clear hX hY X Y)
     | refine wp1_region ?_
     | refine wp1_cond fun X Y hX hY => ?_
     | (refine condK_of (fun c => ?_) (fun c => ?_) <;> (try simp [-List.length_eq_zero_iff] at c))
     | (refine callT_fl (szI_no _ _ ?_ ?_ ?_) (by simp [St.args, St.arg, t0, t1, e] <;> first | rfl | ((repeat' first | rfl | apply And.intro); first | done | fail)) ?_; omega; omega; omega)
     | simp (maxSteps := 4000000) (disch := omega) [t0, t1, e])
    all_goals try (simp [t0, t1, e, Back]; done)
    all_goals first | omega | skip
  · by_cases e2 : left - n.nodes.length < sizeW n
    · have e : leave left (sumN n) = -1 := if_pos (by unfold sumN; omega)
      have e3 : leave (left - n.nodes.length) (sizeW n) = -1 := if_pos e2
      repeat' (first
       | refine wp1_seq fun K hK => ?_
       | refine M_cons fun K hK => ?_
       | (refine hK _ ?_; clear hK K)
       | (refine hX _ ?_; clear hX hY X Y)
       | (refine hY _ ?_; clear hX hY X Y)
       | refine wp1_region ?_
       | refine wp1_cond fun X Y hX hY => ?_
       | (refine condK_of (fun c => ?_) (fun c => ?_) <;> (try simp [-List.length_eq_zero_iff] at c))
       | (refine callT_fl (szI_ok _ _ ?_ ?_ ?_) (by simp [St.args, St.arg, t0, t1, e, e3] <;> first | rfl | ((repeat' first | rfl | apply And.intro); first | done | fail)) ?_; omega; omega; omega)
       | (refine callT_fl (szWn _ ?_ ?_) (by simp [St.args, St.arg, t0, t1, e, e3] <;> first | rfl | ((repeat' first | rfl | apply And.intro); first | done | fail)) ?_; omega; omega)
       | simp (maxSteps := 4000000) (disch := omega) [t0, t1, e, e3])
      all_goals try (simp [t0, t1, e, e3, Back]; done)
      all_goals first | omega | skip
    · have e3 : leave (left - n.nodes.length) (sizeW n) = left - n.nodes.length - sizeW n := if_neg e2
      by_cases e4 : left - n.nodes.length - sizeW n < sizeR n
      · have e : leave left (sumN n) = -1 := if_pos (by unfold sumN; omega)
        have e5 : leave (left - n.nodes.length - sizeW n) (sizeR n) = -1 := if_pos e4
        repeat' (first
         | refine wp1_seq fun K hK => ?_
         | refine M_cons fun K hK => ?_
         | (refine hK _ ?_; clear hK K)
         | (refine hX _ ?_; clear hX hY X Y)
         | (refine hY _ ?_; clear hX hY X Y)
         | refine wp1_region ?_
         | refine wp1_cond fun X Y hX hY => ?_
         | (refine condK_of (fun c => ?_) (fun c => ?_) <;> (try simp [-List.length_eq_zero_iff] at c))
         | (refine callT_fl (szI_ok _ _ ?_ ?_ ?_) (by simp [St.args, St.arg, t0, t1, e, e3, e5] <;> first | rfl | ((repeat' first | rfl | apply And.intro); first | done | fail)) ?_; omega; omega; omega)
         | (refine callT_fl (szWn _ ?_ ?_) (by simp [St.args, St.arg, t0, t1, e, e3, e5] <;> first | rfl | ((repeat' first | rfl | apply And.intro); first | done | fail)) ?_; omega; omega)
         | (refine callT_fl (szRn _ ?_ ?_) (by simp [St.args, St.arg, t0, t1, e, e3, e5] <;> first | rfl | ((repeat' first | rfl | apply And.intro); first | done | fail)) ?_; omega; omega)
         | simp (maxSteps := 4000000) (disch := omega) [t0, t1, e, e3, e5])
        all_goals try (simp [t0, t1, e, e3, e5, Back]; done)
        all_goals first | omega | skip
      · have e5 : leave (left - n.nodes.length - sizeW n) (sizeR n) = left - n.nodes.length - sizeW n - sizeR n := if_neg e4
        by_cases e6 : left - n.nodes.length - sizeW n - sizeR n < n.tcs.length
        · have e : leave left (sumN n) = -1 := if_pos (by unfold sumN; omega)
          have e7 : leave (left - n.nodes.length - sizeW n - sizeR n) n.tcs.length = -1 := if_pos e6
          repeat' (first
           | refine wp1_seq fun K hK => ?_
           | refine M_cons fun K hK => ?_
           | (refine hK _ ?_; clear hK K)
           | (refine hX _ ?_; clear hX hY X Y)
           | (refine hY _ ?_; clear hX hY X Y)
           | refine wp1_region ?_
           | refine wp1_cond fun X Y hX hY => ?_
           | (refine condK_of (fun c => ?_) (fun c => ?_) <;> (try simp [-List.length_eq_zero_iff] at c))
           | (refine callT_fl (szI_ok _ _ ?_ ?_ ?_) (by simp [St.args, St.arg, t0, t1, e, e3, e5, e7] <;> first | rfl | ((repeat' first | rfl | apply And.intro); first | done | fail)) ?_; omega; omega; omega)
           | (refine callT_fl (szWn _ ?_ ?_) (by simp [St.args, St.arg, t0, t1, e, e3, e5, e7] <;> first | rfl | ((repeat' first | rfl | apply And.intro); first | done | fail)) ?_; omega; omega)
           | (refine callT_fl (szRn _ ?_ ?_) (by simp [St.args, St.arg, t0, t1, e, e3, e5, e7] <;> first | rfl | ((repeat' first | rfl | apply And.intro); first | done | fail)) ?_; omega; omega)
           | (refine callT_fl (szC _ _ ?_ ?_ ?_) (by simp [St.args, St.arg, t0, t1, e, e3, e5, e7] <;> first | rfl | ((repeat' first | rfl | apply And.intro); first | done | fail)) ?_; omega; omega; omega)
           | simp (maxSteps := 4000000) (disch := omega) [t0, t1, e, e3, e5, e7])
          all_goals try (simp [t0, t1, e, e3, e5, e7, Back]; done)
          all_goals first | omega | skip
        · have e : leave left (sumN n) = left - sumN n := if_neg (by unfold sumN; omega)
          have e8 : left - sumN n = left - n.nodes.length - sizeW n - sizeR n - n.tcs.length := by unfold sumN; omega
          have e7 : leave (left - n.nodes.length - sizeW n - sizeR n) n.tcs.length = left - n.nodes.length - sizeW n - sizeR n - n.tcs.length := if_neg e6
          repeat' (first
           | refine wp1_seq fun K hK => ?_
           | refine M_cons fun K hK => ?_
           | (refine hK _ ?_; clear hK K)
           | (refine hX _ ?_; clear hX hY X Y)
           | (refine hY _ ?_; clear hX hY X Y)
           | refine wp1_region ?_
           | refine wp1_cond fun X Y hX hY => ?_
           | (refine condK_of (fun c => ?_) (fun c => ?_) <;> (try simp [-List.length_eq_zero_iff] at c))
           | (refine callT_fl (szI_ok _ _ ?_ ?_ ?_) (by simp [St.args, St.arg, t0, t1, e, e8, e3, e5, e7] <;> first | rfl | ((repeat' first | rfl | apply And.intro); first | done | fail)) ?_; omega; omega; omega)
           | (refine callT_fl (szWn _ ?_ ?_) (by simp [St.args, St.arg, t0, t1, e, e8, e3, e5, e7] <;> first | rfl | ((repeat' first | rfl | apply And.intro); first | done | fail)) ?_; omega; omega)
           | (refine callT_fl (szRn _ ?_ ?_) (by simp [St.args, St.arg, t0, t1, e, e8, e3, e5, e7] <;> first | rfl | ((repeat' first | rfl | apply And.intro); first | done | fail)) ?_; omega; omega)
           | (refine callT_fl (szC _ _ ?_ ?_ ?_) (by simp [St.args, St.arg, t0, t1, e, e8, e3, e5, e7] <;> first | rfl | ((repeat' first | rfl | apply And.intro); first | done | fail)) ?_; omega; omega; omega)
           | simp (maxSteps := 4000000) (disch := omega) [t0, t1, e, e8, e3, e5, e7])
          all_goals try (simp [t0, t1, e, e8, e3, e5, e7, Back]; done)
          all_goals first | omega | skip
end Cal

set_option linter.unusedSimpArgs false
set_option linter.unusedVariables false
namespace Cal
open Go Go.Proofs
set_option maxRecDepth 100000
def zW : List T := [.v (.int .i64 0), .v (.bool false), .v (.slice none 0 0), .v (.slice none 0 0)]
def zR : List T := [.v (.int .i64 0), .v (.bool false), .v (.int .i64 0), .v (.int .i64 0), .v (.bool false), .v (.int .i64 0), .v (.slice none 0 0)]
def zC : List T := [.v (.int .i64 0), .v (.int .i64 0), .v (.int .i64 0)]
theorem make_recs {α : Type} (enc : α → List T) (l : List α) (d e : Nat) (ag : Bool) (sz b : Nat) (z : List Value) (hz : z.length = sz) (hs : 0 < sz) (hf : (⟨ag, sz, b, z⟩ : TI).fine = true) (hp : z.all plain = true) (hl : l.length * b ≤ lim) :
    makeA d (some (e, ⟨ag, sz, b, z⟩)) (.t (.v (.int .i64 l.length))) (.t (.v (.int .i64 l.length))) = some (.row (d, 0) sz 0 l.length, [((d, 0), some (.row sz (filled (recRow enc l) 0 (z.map .v))))]) := by
  simp only [makeA]
  rw [if_pos ⟨hf, hp, by omega, Int.le_refl _, by simpa using hl⟩, filled_0, recRow_length]
  rfl
@[simp] theorem make_ways (l : List Way) (d e : Nat) (hl : l.length ≤ 1048576) : makeA d (some (e, ⟨true, 4, 64, [.int .i64 0, .bool false, .slice none 0 0, .slice none 0 0]⟩)) (.t (.v (.int .i64 l.length))) (.t (.v (.int .i64 l.length))) = some (.row (d, 0) 4 0 l.length, [((d, 0), some (.row 4 (filled (recRow encW l) 0 zW)))]) :=
  make_recs encW l d e true 4 64 _ rfl (by omega) (by simp [TI.fine]) (by simp [plain]) (by unfold lim; omega)
@[simp] theorem make_rels (l : List Rln) (d e : Nat) (hl : l.length ≤ 1048576) : makeA d (some (e, ⟨true, 7, 72, [.int .i64 0, .bool false, .int .i64 0, .int .i64 0, .bool false, .int .i64 0, .slice none 0 0]⟩)) (.t (.v (.int .i64 l.length))) (.t (.v (.int .i64 l.length))) = some (.row (d, 0) 7 0 l.length, [((d, 0), some (.row 7 (filled (recRow encR l) 0 zR)))]) :=
  make_recs encR l d e true 7 72 _ rfl (by omega) (by simp [TI.fine]) (by simp [plain]) (by unfold lim; omega)
@[simp] theorem make_tcs (l : List Tc) (d e : Nat) (hl : l.length ≤ 1048576) : makeA d (some (e, ⟨true, 3, 24, [.int .i64 0, .int .i64 0, .int .i64 0]⟩)) (.t (.v (.int .i64 l.length))) (.t (.v (.int .i64 l.length))) = some (.row (d, 0) 3 0 l.length, [((d, 0), some (.row 3 (filled (recRow encC l) 0 zC)))]) :=
  make_recs encC l d e true 3 24 _ rfl (by omega) (by simp [TI.fine]) (by simp [plain]) (by unfold lim; omega)
@[simp] theorem filled_len' {α : Type} (enc : α → List T) (l : List α) (k : Nat) (z : List T) (h : k ≤ l.length) : (filled (recRow enc l) k z).length = l.length := by
  rw [filled_length _ _ _ (by rw [recRow_length]; exact h), recRow_length]
@[simp] theorem filled_get' {α : Type} (enc : α → List T) (l : List α) (k : Nat) (z : List T) (h : k < l.length) : (filled (recRow enc l) k z)[k]? = some z := filled_get (by rw [recRow_length]; exact h)
theorem filled_set' {α : Type} [Inhabited α] (enc : α → List T) (l : List α) (k : Nat) (z : List T) (h : k < l.length) : (filled (recRow enc l) k z).set k (enc (nth l k)) = filled (recRow enc l) (k + 1) z := filled_set (by rw [recRow_length]; exact h) (recRow_get enc h)
@[simp] theorem filled_all' {α : Type} (enc : α → List T) (l : List α) (z : List T) : filled (recRow enc l) l.length z = recRow enc l := by
  have := filled_all (recRow enc l) z
  rwa [recRow_length] at this
@[simp] theorem zW_len : zW.length = 4 := rfl
@[simp] theorem zR_len : zR.length = 7 := rfl
@[simp] theorem zC_len : zC.length = 3 := rfl
@[simp] theorem over_W (a b c d : T) : overT zW 0 [a, b, c, d] = [a, b, c, d] := rfl
@[simp] theorem over_R (a b c d e f g : T) : overT zR 0 [a, b, c, d, e, f, g] = [a, b, c, d, e, f, g] := rfl
@[simp] theorem over_C (a b c : T) : overT zC 0 [a, b, c] = [a, b, c] := rfl
@[simp] theorem set_W (l : List Way) (k : Nat) (h : k < l.length) : (filled (recRow encW l) k zW).set k [.v (.int .i64 (nth l k).id), .v (.bool (nth l k).two), ints (nth l k).nodes, ints (nth l k).lens] = filled (recRow encW l) (k + 1) zW := filled_set' encW l k zW h
@[simp] theorem set_R (l : List Rln) (k : Nat) (h : k < l.length) : (filled (recRow encR l) k zR).set k [.v (.int .i64 (nth l k).id), .v (.bool (nth l k).only), .v (.int .i64 (nth l k).fr), .v (.int .i64 (nth l k).to), .v (.bool (nth l k).atNode), .v (.int .i64 (nth l k).node), ints (nth l k).via] = filled (recRow encR l) (k + 1) zR := filled_set' encR l k zR h
@[simp] theorem set_C (l : List Tc) (k : Nat) (h : k < l.length) : (filled (recRow encC l) k zC).set k [.v (.int .i64 (nth l k).fr), .v (.int .i64 (nth l k).to), .v (.int .i64 (nth l k).cost)] = filled (recRow encC l) (k + 1) zC := filled_set' encC l k zC h
def rvW (w : Way) : List RV := [.t (.v (.int .i64 w.id)), .t (.v (.bool w.two)), .own 1 (intRow w.nodes), .own 1 (intRow w.lens)]
def rvR (r : Rln) : List RV := [.t (.v (.int .i64 r.id)), .t (.v (.bool r.only)), .t (.v (.int .i64 r.fr)), .t (.v (.int .i64 r.to)), .t (.v (.bool r.atNode)), .t (.v (.int .i64 r.node)), .own 1 (intRow r.via)]
/-- The code of laws.toWay. -/
def k59 : Code1 :=
 (.seq
 (.region [1,2] false ([]) [
 ⟨some 1,Op.box 97 (Operand.tmp 0),none⟩,
 ⟨some 2,Op.alloc 55,none⟩])
 (.seq
 (.region [3] false ([]) [
 ⟨some 3,Op.alloc 55,none⟩])
 (.seq
 (.region [] false ([]) [
 ⟨some 4,Op.fieldAddr 97 (Operand.tmp 1) 0,none⟩,
 ⟨some 5,Op.load 2 (Operand.tmp 4),none⟩,
 ⟨some 6,Op.fieldAddr 55 (Operand.tmp 3) 0,none⟩,
 ⟨none,Op.store 2 (Operand.tmp 6) (Operand.tmp 5),none⟩])
 (.seq
 (.region [] false ([]) [
 ⟨some 7,Op.fieldAddr 97 (Operand.tmp 1) 1,none⟩,
 ⟨some 8,Op.load 4 (Operand.tmp 7),none⟩,
 ⟨some 9,Op.fieldAddr 55 (Operand.tmp 3) 1,none⟩,
 ⟨none,Op.store 4 (Operand.tmp 9) (Operand.tmp 8),none⟩])
 (.seq
 (.region [12] false ([]) [
 ⟨some 10,Op.fieldAddr 97 (Operand.tmp 1) 2,none⟩,
 ⟨some 11,Op.load 22 (Operand.tmp 10),none⟩,
 ⟨some 12,Op.call {callee:=Callee.value (Operand.func 27),args:=#[Operand.tmp 11],argTypes:=#[22]},none⟩,
 ⟨some 13,Op.fieldAddr 55 (Operand.tmp 3) 2,none⟩,
 ⟨none,Op.store 22 (Operand.tmp 13) (Operand.tmp 12),none⟩])
 (.seq
 (.region [16] false ([]) [
 ⟨some 14,Op.fieldAddr 97 (Operand.tmp 1) 3,none⟩,
 ⟨some 15,Op.load 22 (Operand.tmp 14),none⟩,
 ⟨some 16,Op.call {callee:=Callee.value (Operand.func 27),args:=#[Operand.tmp 15],argTypes:=#[22]},none⟩,
 ⟨some 17,Op.fieldAddr 55 (Operand.tmp 3) 3,none⟩,
 ⟨none,Op.store 22 (Operand.tmp 17) (Operand.tmp 16),none⟩])
 (.seq
 (.region [] false ([]) [
 ⟨some 18,Op.load 55 (Operand.tmp 3),none⟩,
 ⟨none,Op.store 55 (Operand.tmp 2) (Operand.tmp 18),none⟩])
 .ret)))))))
theorem toW (w : Way) (h1 : w.nodes.length ≤ 1048576) (h2 : w.lens.length ≤ 1048576) : CallsF Tryd.prog 59 [.agg (encW w)] (.agg (rvW w)) [] := by
  refine callsF_of_wp1 (fn := Tryd.f59) (k := k59) (fun _ => []) mixed (by kernel_rfl) rfl (by kernel_rfl) (by kernel_rfl) (by kernel_rfl) rfl (by simp [Tryd.f59]) (by simp [Arg.like]) ?_
  generalize hst : St.enter [.agg (encW w)] = st0
  have t0 : st0.tm 0 = .agg ((encW w) |>.map .t) := by rw [← hst]; rfl
  clear hst
  unfold k59
  simp [encW] at t0
  repeat' (first
   | refine wp1_seq fun K hK => ?_
   | refine M_cons fun K hK => ?_
   | (refine hK _ ?_; clear hK K)
   | refine wp1_region ?_
   | (refine callT_fl (toI _ ?_) (by simp [St.args, St.arg, t0] <;> first | rfl | ((repeat' first | rfl | apply And.intro); first | done | fail)) ?_; omega)
   | simp (maxSteps := 4000000) (disch := omega) [t0])
  simp [Back, rvW]
/-- The code of laws.toRelation. -/
def k60 : Code1 :=
 (.seq
 (.region [1,2] false ([]) [
 ⟨some 1,Op.box 99 (Operand.tmp 0),none⟩,
 ⟨some 2,Op.alloc 58,none⟩])
 (.seq
 (.region [3] false ([]) [
 ⟨some 3,Op.alloc 58,none⟩])
 (.seq
 (.region [] false ([]) [
 ⟨some 4,Op.fieldAddr 99 (Operand.tmp 1) 0,none⟩,
 ⟨some 5,Op.load 2 (Operand.tmp 4),none⟩,
 ⟨some 6,Op.fieldAddr 58 (Operand.tmp 3) 0,none⟩,
 ⟨none,Op.store 2 (Operand.tmp 6) (Operand.tmp 5),none⟩])
 (.seq
 (.region [] false ([]) [
 ⟨some 7,Op.fieldAddr 99 (Operand.tmp 1) 1,none⟩,
 ⟨some 8,Op.load 4 (Operand.tmp 7),none⟩,
 ⟨some 9,Op.fieldAddr 58 (Operand.tmp 3) 1,none⟩,
 ⟨none,Op.store 4 (Operand.tmp 9) (Operand.tmp 8),none⟩])
 (.seq
 (.region [] false ([]) [
 ⟨some 10,Op.fieldAddr 99 (Operand.tmp 1) 2,none⟩,
 ⟨some 11,Op.load 2 (Operand.tmp 10),none⟩,
 ⟨some 12,Op.fieldAddr 58 (Operand.tmp 3) 2,none⟩,
 ⟨none,Op.store 2 (Operand.tmp 12) (Operand.tmp 11),none⟩])
 (.seq
 (.region [] false ([]) [
 ⟨some 13,Op.fieldAddr 99 (Operand.tmp 1) 3,none⟩,
 ⟨some 14,Op.load 2 (Operand.tmp 13),none⟩,
 ⟨some 15,Op.fieldAddr 58 (Operand.tmp 3) 3,none⟩,
 ⟨none,Op.store 2 (Operand.tmp 15) (Operand.tmp 14),none⟩])
 (.seq
 (.region [] false ([]) [
 ⟨some 16,Op.fieldAddr 99 (Operand.tmp 1) 4,none⟩,
 ⟨some 17,Op.load 4 (Operand.tmp 16),none⟩,
 ⟨some 18,Op.fieldAddr 58 (Operand.tmp 3) 4,none⟩,
 ⟨none,Op.store 4 (Operand.tmp 18) (Operand.tmp 17),none⟩])
 (.seq
 (.region [] false ([]) [
 ⟨some 19,Op.fieldAddr 99 (Operand.tmp 1) 5,none⟩,
 ⟨some 20,Op.load 2 (Operand.tmp 19),none⟩,
 ⟨some 21,Op.fieldAddr 58 (Operand.tmp 3) 5,none⟩,
 ⟨none,Op.store 2 (Operand.tmp 21) (Operand.tmp 20),none⟩])
 (.seq
 (.region [24] false ([]) [
 ⟨some 22,Op.fieldAddr 99 (Operand.tmp 1) 6,none⟩,
 ⟨some 23,Op.load 22 (Operand.tmp 22),none⟩,
 ⟨some 24,Op.call {callee:=Callee.value (Operand.func 27),args:=#[Operand.tmp 23],argTypes:=#[22]},none⟩,
 ⟨some 25,Op.fieldAddr 58 (Operand.tmp 3) 6,none⟩,
 ⟨none,Op.store 22 (Operand.tmp 25) (Operand.tmp 24),none⟩])
 (.seq
 (.region [] false ([]) [
 ⟨some 26,Op.load 58 (Operand.tmp 3),none⟩,
 ⟨none,Op.store 58 (Operand.tmp 2) (Operand.tmp 26),none⟩])
 .ret))))))))))
theorem toR (r : Rln) (h1 : r.via.length ≤ 1048576) : CallsF Tryd.prog 60 [.agg (encR r)] (.agg (rvR r)) [] := by
  refine callsF_of_wp1 (fn := Tryd.f60) (k := k60) (fun _ => []) mixed (by kernel_rfl) rfl (by kernel_rfl) (by kernel_rfl) (by kernel_rfl) rfl (by simp [Tryd.f60]) (by simp [Arg.like]) ?_
  generalize hst : St.enter [.agg (encR r)] = st0
  have t0 : st0.tm 0 = .agg ((encR r) |>.map .t) := by rw [← hst]; rfl
  clear hst
  unfold k60
  simp [encR] at t0
  repeat' (first
   | refine wp1_seq fun K hK => ?_
   | refine M_cons fun K hK => ?_
   | (refine hK _ ?_; clear hK K)
   | refine wp1_region ?_
   | (refine callT_fl (toI _ ?_) (by simp [St.args, St.arg, t0] <;> first | rfl | ((repeat' first | rfl | apply And.intro); first | done | fail)) ?_; omega)
   | simp (maxSteps := 4000000) (disch := omega) [t0])
  simp [Back, rvR]
/-- The code of laws.toTurnCost. -/
def k61 : Code1 :=
 (.seq
 (.region [1,2] false ([]) [
 ⟨some 1,Op.box 103 (Operand.tmp 0),none⟩,
 ⟨some 2,Op.alloc 60,none⟩])
 (.seq
 (.region [3] false ([]) [
 ⟨some 3,Op.alloc 60,none⟩])
 (.seq
 (.region [] false ([]) [
 ⟨some 4,Op.fieldAddr 103 (Operand.tmp 1) 0,none⟩,
 ⟨some 5,Op.load 2 (Operand.tmp 4),none⟩,
 ⟨some 6,Op.fieldAddr 60 (Operand.tmp 3) 0,none⟩,
 ⟨none,Op.store 2 (Operand.tmp 6) (Operand.tmp 5),none⟩])
 (.seq
 (.region [] false ([]) [
 ⟨some 7,Op.fieldAddr 103 (Operand.tmp 1) 1,none⟩,
 ⟨some 8,Op.load 2 (Operand.tmp 7),none⟩,
 ⟨some 9,Op.fieldAddr 60 (Operand.tmp 3) 1,none⟩,
 ⟨none,Op.store 2 (Operand.tmp 9) (Operand.tmp 8),none⟩])
 (.seq
 (.region [] false ([]) [
 ⟨some 10,Op.fieldAddr 103 (Operand.tmp 1) 2,none⟩,
 ⟨some 11,Op.load 2 (Operand.tmp 10),none⟩,
 ⟨some 12,Op.fieldAddr 60 (Operand.tmp 3) 2,none⟩,
 ⟨none,Op.store 2 (Operand.tmp 12) (Operand.tmp 11),none⟩])
 (.seq
 (.region [] false ([]) [
 ⟨some 13,Op.load 60 (Operand.tmp 3),none⟩,
 ⟨none,Op.store 60 (Operand.tmp 2) (Operand.tmp 13),none⟩])
 .ret))))))
theorem toC (t : Tc) : CallsF Tryd.prog 61 [.agg (encC t)] (.agg [.t (.v (.int .i64 t.fr)), .t (.v (.int .i64 t.to)), .t (.v (.int .i64 t.cost))]) [] := by
  refine callsF_of_wp1 (fn := Tryd.f61) (k := k61) (fun _ => []) mixed (by kernel_rfl) rfl (by kernel_rfl) (by kernel_rfl) (by kernel_rfl) rfl (by simp [Tryd.f61]) (by simp [Arg.like]) ?_
  generalize hst : St.enter [.agg (encC t)] = st0
  have t0 : st0.tm 0 = .agg ((encC t) |>.map .t) := by rw [← hst]; rfl
  clear hst
  unfold k61
  simp [encC] at t0
  repeat' (first
   | refine wp1_seq fun K hK => ?_
   | refine M_cons fun K hK => ?_
   | (refine hK _ ?_; clear hK K)
   | refine wp1_region ?_
   | simp (maxSteps := 4000000) (disch := omega) [t0])
  all_goals try (simp [t0, Back]; done)
/-- The code of laws.toWayS. -/
def k28 : Code1 :=
 (.seq
 (.region [] false ([]) [
 ⟨some 2,Op.assign (Operand.const (Value.slice none 0 0)),none⟩])
 (.seq
 (.region [7] false ([]) [
 ⟨some 5,Op.move (Operand.tmp 0),none⟩,
 ⟨some 6,Op.call {callee:=Callee.builtin Builtin.len,args:=#[Operand.tmp 5],argTypes:=#[23]},none⟩,
 ⟨some 7,Op.makeSlice 31 (Operand.tmp 6) (Operand.tmp 6),none⟩,
 ⟨some 3,Op.assign (Operand.tmp 7),none⟩])
 (.seq
 (.seq
 (.region [] false ([]) [
 ⟨some 4,Op.assign (Operand.const (Value.int IntKind.i64 0)),none⟩])
 (.block 0
 (.loop
 (.seq
 (.seq
 (.region [] false ([]) [
 ⟨some 8,Op.move (Operand.tmp 4),none⟩,
 ⟨some 9,Op.move (Operand.tmp 0),none⟩,
 ⟨some 10,Op.call {callee:=Callee.builtin Builtin.len,args:=#[Operand.tmp 9],argTypes:=#[23]},none⟩,
 ⟨some 11,Op.binOp BinOp.lss 3 (Operand.tmp 8) (Operand.tmp 10) 3,none⟩])
 (.cond (Operand.tmp 11)
 .skip
 (.exit 0)))
 (.seq
 (.block 1
 (.region [20] false ([]) [
 ⟨some 14,Op.move (Operand.tmp 3),none⟩,
 ⟨some 15,Op.move (Operand.tmp 4),none⟩,
 ⟨some 16,Op.move (Operand.tmp 0),none⟩,
 ⟨some 17,Op.move (Operand.tmp 4),none⟩,
 ⟨some 18,Op.indexAddr 23 (Operand.tmp 16) (Operand.tmp 17),none⟩,
 ⟨some 19,Op.load 97 (Operand.tmp 18),none⟩,
 ⟨some 20,Op.call {callee:=Callee.value (Operand.func 59),args:=#[Operand.tmp 19],argTypes:=#[97]},none⟩,
 ⟨some 21,Op.indexAddr 31 (Operand.tmp 14) (Operand.tmp 15),none⟩,
 ⟨none,Op.store 55 (Operand.tmp 21) (Operand.tmp 20),none⟩]))
 (.region [] false ([]) [
 ⟨some 12,Op.move (Operand.tmp 4),none⟩,
 ⟨some 13,Op.binOp BinOp.add 3 (Operand.tmp 12) (Operand.const (Value.int IntKind.i64 1)) 3,none⟩,
 ⟨some 4,Op.assign (Operand.tmp 13),none⟩]))))))
 (.seq
 (.region [] false ([]) [
 ⟨some 22,Op.move (Operand.tmp 3),none⟩,
 ⟨some 2,Op.assign (Operand.tmp 22),none⟩])
 .ret))))
theorem toWs (l : List Way) (hl : l.length ≤ 1048576) (h1 : ∀ i : Nat, i < l.length → (nth l i).nodes.length ≤ 1048576) (h2 : ∀ i : Nat, i < l.length → (nth l i).lens.length ≤ 1048576) : CallsF Tryd.prog 28 [.val (recs encW l)] (.own 4 (recRow encW l)) [] := by
  refine callsF_of_wp1 (fn := Tryd.f28) (k := k28) (fun _ => []) mixed (by kernel_rfl) rfl (by kernel_rfl) (by kernel_rfl) (by kernel_rfl) rfl (by simp [Tryd.f28]) (by simp [Arg.like]) ?_
  generalize hst : St.enter [.val (recs encW l)] = st0
  have t0 : st0.tm 0 = .t (recs encW l) := by rw [← hst]; rfl
  clear hst
  unfold k28
  repeat' (first
   | refine wp1_seq fun K hK => ?_
   | refine M_cons fun K hK => ?_
   | (refine hK _ ?_; clear hK K)
   | refine wp1_block ?_
   | refine wp1_region ?_
   | simp (maxSteps := 4000000) (disch := omega) [t0])
  have hJ : ∀ s : St, s.tm 3 = .row (7, 0) 4 0 l.length → s.ob (7, 0) = some (.row 4 (recRow encW l)) → K s := by
    intro s s3 o
    repeat' (first
     | refine wp1_seq fun K hK => ?_
     | refine M_cons fun K hK => ?_
     | (refine hK _ ?_; clear hK K)
     | refine wp1_region ?_
     | simp (maxSteps := 4000000) (disch := omega) [s3, o])
    all_goals try (simp [s3, o, Back]; done)
  clear hK
  refine wp1_loop (fun n s => ∃ k : Nat, s.tm 0 = .t (recs encW l) ∧ s.tm 3 = .row (7, 0) 4 0 l.length ∧ s.tm 4 = .t (.v (.int .i64 k)) ∧ s.ob (7, 0) = some (.row 4 (filled (recRow encW l) k zW)) ∧ k ≤ l.length ∧ n = l.length - k) l.length ?_ ?_
  · refine ⟨0, ?_⟩
    simp [t0]
  · rintro n s ⟨k, s0, s3, s4, o, hk, rfl⟩ K' hK'
    have g1 := h1 k
    have g2 := h2 k
    by_cases hlt : k < l.length
    · repeat' (first
     | refine wp1_seq fun K hK => ?_
     | refine M_cons fun K hK => ?_
     | (refine hK _ ?_; clear hK K)
     | (refine hX _ ?_; clear hX hY X Y)
     | (refine hY _ ?_; clear hX hY X Y)
     | refine wp1_block ?_
     | refine wp1_region ?_
     | refine wp1_cond fun X Y hX hY => ?_
     | (refine condK_of (fun c => ?_) (fun c => ?_) <;> (try simp [-List.length_eq_zero_iff] at c))
     | (refine callT_fl (toW _ ?_ ?_) (by simp [St.args, St.arg, s0, s3, s4, o, encW, rvW] <;> first | rfl | ((repeat' first | rfl | apply And.intro); first | done | fail)) ?_; omega; omega)
     | simp (maxSteps := 4000000) (disch := omega) [s0, s3, s4, o, encW, rvW])
      all_goals first
        | omega
        | (refine hK' (l.length - (k + 1)) _ (by omega) ⟨k + 1, ?_⟩
           simp [s0, s3]
           omega)
    · have hkl : k = l.length := by omega
      subst hkl
      repeat' (first
       | refine wp1_seq fun K hK => ?_
       | refine M_cons fun K hK => ?_
       | (refine hK _ ?_; clear hK K)
       | (refine hY _ ?_; clear hX hY X Y)
       | refine wp1_region ?_
       | refine wp1_cond fun X Y hX hY => ?_
       | (refine condK_of (fun c => ?_) (fun c => ?_) <;> (try simp [-List.length_eq_zero_iff] at c))
       | simp (maxSteps := 4000000) (disch := omega) [s0, s3, s4, o])
      all_goals first
        | omega
        | exact hJ _ (by simp [s3]) (by simp [o])
/-- The code of laws.toRelationS. -/
def k29 : Code1 :=
 (.seq
 (.region [] false ([]) [
 ⟨some 2,Op.assign (Operand.const (Value.slice none 0 0)),none⟩])
 (.seq
 (.region [7] false ([]) [
 ⟨some 5,Op.move (Operand.tmp 0),none⟩,
 ⟨some 6,Op.call {callee:=Callee.builtin Builtin.len,args:=#[Operand.tmp 5],argTypes:=#[24]},none⟩,
 ⟨some 7,Op.makeSlice 32 (Operand.tmp 6) (Operand.tmp 6),none⟩,
 ⟨some 3,Op.assign (Operand.tmp 7),none⟩])
 (.seq
 (.seq
 (.region [] false ([]) [
 ⟨some 4,Op.assign (Operand.const (Value.int IntKind.i64 0)),none⟩])
 (.block 0
 (.loop
 (.seq
 (.seq
 (.region [] false ([]) [
 ⟨some 8,Op.move (Operand.tmp 4),none⟩,
 ⟨some 9,Op.move (Operand.tmp 0),none⟩,
 ⟨some 10,Op.call {callee:=Callee.builtin Builtin.len,args:=#[Operand.tmp 9],argTypes:=#[24]},none⟩,
 ⟨some 11,Op.binOp BinOp.lss 3 (Operand.tmp 8) (Operand.tmp 10) 3,none⟩])
 (.cond (Operand.tmp 11)
 .skip
 (.exit 0)))
 (.seq
 (.block 1
 (.region [20] false ([]) [
 ⟨some 14,Op.move (Operand.tmp 3),none⟩,
 ⟨some 15,Op.move (Operand.tmp 4),none⟩,
 ⟨some 16,Op.move (Operand.tmp 0),none⟩,
 ⟨some 17,Op.move (Operand.tmp 4),none⟩,
 ⟨some 18,Op.indexAddr 24 (Operand.tmp 16) (Operand.tmp 17),none⟩,
 ⟨some 19,Op.load 99 (Operand.tmp 18),none⟩,
 ⟨some 20,Op.call {callee:=Callee.value (Operand.func 60),args:=#[Operand.tmp 19],argTypes:=#[99]},none⟩,
 ⟨some 21,Op.indexAddr 32 (Operand.tmp 14) (Operand.tmp 15),none⟩,
 ⟨none,Op.store 58 (Operand.tmp 21) (Operand.tmp 20),none⟩]))
 (.region [] false ([]) [
 ⟨some 12,Op.move (Operand.tmp 4),none⟩,
 ⟨some 13,Op.binOp BinOp.add 3 (Operand.tmp 12) (Operand.const (Value.int IntKind.i64 1)) 3,none⟩,
 ⟨some 4,Op.assign (Operand.tmp 13),none⟩]))))))
 (.seq
 (.region [] false ([]) [
 ⟨some 22,Op.move (Operand.tmp 3),none⟩,
 ⟨some 2,Op.assign (Operand.tmp 22),none⟩])
 .ret))))
theorem toRs (l : List Rln) (hl : l.length ≤ 1048576) (h1 : ∀ i : Nat, i < l.length → (nth l i).via.length ≤ 1048576) : CallsF Tryd.prog 29 [.val (recs encR l)] (.own 7 (recRow encR l)) [] := by
  refine callsF_of_wp1 (fn := Tryd.f29) (k := k29) (fun _ => []) mixed (by kernel_rfl) rfl (by kernel_rfl) (by kernel_rfl) (by kernel_rfl) rfl (by simp [Tryd.f29]) (by simp [Arg.like]) ?_
  generalize hst : St.enter [.val (recs encR l)] = st0
  have t0 : st0.tm 0 = .t (recs encR l) := by rw [← hst]; rfl
  clear hst
  unfold k29
  repeat' (first
   | refine wp1_seq fun K hK => ?_
   | refine M_cons fun K hK => ?_
   | (refine hK _ ?_; clear hK K)
   | refine wp1_block ?_
   | refine wp1_region ?_
   | simp (maxSteps := 4000000) (disch := omega) [t0])
  have hJ : ∀ s : St, s.tm 3 = .row (7, 0) 7 0 l.length → s.ob (7, 0) = some (.row 7 (recRow encR l)) → K s := by
    intro s s3 o
    repeat' (first
     | refine wp1_seq fun K hK => ?_
     | refine M_cons fun K hK => ?_
     | (refine hK _ ?_; clear hK K)
     | refine wp1_region ?_
     | simp (maxSteps := 4000000) (disch := omega) [s3, o])
    all_goals try (simp [s3, o, Back]; done)
  clear hK
  refine wp1_loop (fun n s => ∃ k : Nat, s.tm 0 = .t (recs encR l) ∧ s.tm 3 = .row (7, 0) 7 0 l.length ∧ s.tm 4 = .t (.v (.int .i64 k)) ∧ s.ob (7, 0) = some (.row 7 (filled (recRow encR l) k zR)) ∧ k ≤ l.length ∧ n = l.length - k) l.length ?_ ?_
  · refine ⟨0, ?_⟩
    simp [t0]
  · rintro n s ⟨k, s0, s3, s4, o, hk, rfl⟩ K' hK'
    have g1 := h1 k
    by_cases hlt : k < l.length
    · repeat' (first
     | refine wp1_seq fun K hK => ?_
     | refine M_cons fun K hK => ?_
     | (refine hK _ ?_; clear hK K)
     | (refine hX _ ?_; clear hX hY X Y)
     | (refine hY _ ?_; clear hX hY X Y)
     | refine wp1_block ?_
     | refine wp1_region ?_
     | refine wp1_cond fun X Y hX hY => ?_
     | (refine condK_of (fun c => ?_) (fun c => ?_) <;> (try simp [-List.length_eq_zero_iff] at c))
     | (refine callT_fl (toR _ ?_) (by simp [St.args, St.arg, s0, s3, s4, o, encR, rvR] <;> first | rfl | ((repeat' first | rfl | apply And.intro); first | done | fail)) ?_; omega)
     | simp (maxSteps := 4000000) (disch := omega) [s0, s3, s4, o, encR, rvR])
      all_goals first
        | omega
        | (refine hK' (l.length - (k + 1)) _ (by omega) ⟨k + 1, ?_⟩
           simp [s0, s3]
           omega)
    · have hkl : k = l.length := by omega
      subst hkl
      repeat' (first
       | refine wp1_seq fun K hK => ?_
       | refine M_cons fun K hK => ?_
       | (refine hK _ ?_; clear hK K)
       | (refine hY _ ?_; clear hX hY X Y)
       | refine wp1_region ?_
       | refine wp1_cond fun X Y hX hY => ?_
       | (refine condK_of (fun c => ?_) (fun c => ?_) <;> (try simp [-List.length_eq_zero_iff] at c))
       | simp (maxSteps := 4000000) (disch := omega) [s0, s3, s4, o])
      all_goals first
        | omega
        | exact hJ _ (by simp [s3]) (by simp [o])
/-- The code of laws.toTurnCostS. -/
def k30 : Code1 :=
 (.seq
 (.region [] false ([]) [
 ⟨some 2,Op.assign (Operand.const (Value.slice none 0 0)),none⟩])
 (.seq
 (.region [7] false ([]) [
 ⟨some 5,Op.move (Operand.tmp 0),none⟩,
 ⟨some 6,Op.call {callee:=Callee.builtin Builtin.len,args:=#[Operand.tmp 5],argTypes:=#[25]},none⟩,
 ⟨some 7,Op.makeSlice 33 (Operand.tmp 6) (Operand.tmp 6),none⟩,
 ⟨some 3,Op.assign (Operand.tmp 7),none⟩])
 (.seq
 (.seq
 (.region [] false ([]) [
 ⟨some 4,Op.assign (Operand.const (Value.int IntKind.i64 0)),none⟩])
 (.block 0
 (.loop
 (.seq
 (.seq
 (.region [] false ([]) [
 ⟨some 8,Op.move (Operand.tmp 4),none⟩,
 ⟨some 9,Op.move (Operand.tmp 0),none⟩,
 ⟨some 10,Op.call {callee:=Callee.builtin Builtin.len,args:=#[Operand.tmp 9],argTypes:=#[25]},none⟩,
 ⟨some 11,Op.binOp BinOp.lss 3 (Operand.tmp 8) (Operand.tmp 10) 3,none⟩])
 (.cond (Operand.tmp 11)
 .skip
 (.exit 0)))
 (.seq
 (.block 1
 (.region [20] false ([]) [
 ⟨some 14,Op.move (Operand.tmp 3),none⟩,
 ⟨some 15,Op.move (Operand.tmp 4),none⟩,
 ⟨some 16,Op.move (Operand.tmp 0),none⟩,
 ⟨some 17,Op.move (Operand.tmp 4),none⟩,
 ⟨some 18,Op.indexAddr 25 (Operand.tmp 16) (Operand.tmp 17),none⟩,
 ⟨some 19,Op.load 103 (Operand.tmp 18),none⟩,
 ⟨some 20,Op.call {callee:=Callee.value (Operand.func 61),args:=#[Operand.tmp 19],argTypes:=#[103]},none⟩,
 ⟨some 21,Op.indexAddr 33 (Operand.tmp 14) (Operand.tmp 15),none⟩,
 ⟨none,Op.store 60 (Operand.tmp 21) (Operand.tmp 20),none⟩]))
 (.region [] false ([]) [
 ⟨some 12,Op.move (Operand.tmp 4),none⟩,
 ⟨some 13,Op.binOp BinOp.add 3 (Operand.tmp 12) (Operand.const (Value.int IntKind.i64 1)) 3,none⟩,
 ⟨some 4,Op.assign (Operand.tmp 13),none⟩]))))))
 (.seq
 (.region [] false ([]) [
 ⟨some 22,Op.move (Operand.tmp 3),none⟩,
 ⟨some 2,Op.assign (Operand.tmp 22),none⟩])
 .ret))))
theorem toCs (l : List Tc) (hl : l.length ≤ 1048576)  : CallsF Tryd.prog 30 [.val (recs encC l)] (.own 3 (recRow encC l)) [] := by
  refine callsF_of_wp1 (fn := Tryd.f30) (k := k30) (fun _ => []) mixed (by kernel_rfl) rfl (by kernel_rfl) (by kernel_rfl) (by kernel_rfl) rfl (by simp [Tryd.f30]) (by simp [Arg.like]) ?_
  generalize hst : St.enter [.val (recs encC l)] = st0
  have t0 : st0.tm 0 = .t (recs encC l) := by rw [← hst]; rfl
  clear hst
  unfold k30
  repeat' (first
   | refine wp1_seq fun K hK => ?_
   | refine M_cons fun K hK => ?_
   | (refine hK _ ?_; clear hK K)
   | refine wp1_block ?_
   | refine wp1_region ?_
   | simp (maxSteps := 4000000) (disch := omega) [t0])
  have hJ : ∀ s : St, s.tm 3 = .row (7, 0) 3 0 l.length → s.ob (7, 0) = some (.row 3 (recRow encC l)) → K s := by
    intro s s3 o
    repeat' (first
     | refine wp1_seq fun K hK => ?_
     | refine M_cons fun K hK => ?_
     | (refine hK _ ?_; clear hK K)
     | refine wp1_region ?_
     | simp (maxSteps := 4000000) (disch := omega) [s3, o])
    all_goals try (simp [s3, o, Back]; done)
  clear hK
  refine wp1_loop (fun n s => ∃ k : Nat, s.tm 0 = .t (recs encC l) ∧ s.tm 3 = .row (7, 0) 3 0 l.length ∧ s.tm 4 = .t (.v (.int .i64 k)) ∧ s.ob (7, 0) = some (.row 3 (filled (recRow encC l) k zC)) ∧ k ≤ l.length ∧ n = l.length - k) l.length ?_ ?_
  · refine ⟨0, ?_⟩
    simp [t0]
  · rintro n s ⟨k, s0, s3, s4, o, hk, rfl⟩ K' hK'
    by_cases hlt : k < l.length
    · repeat' (first
     | refine wp1_seq fun K hK => ?_
     | refine M_cons fun K hK => ?_
     | (refine hK _ ?_; clear hK K)
     | (refine hX _ ?_; clear hX hY X Y)
     | (refine hY _ ?_; clear hX hY X Y)
     | refine wp1_block ?_
     | refine wp1_region ?_
     | refine wp1_cond fun X Y hX hY => ?_
     | (refine condK_of (fun c => ?_) (fun c => ?_) <;> (try simp [-List.length_eq_zero_iff] at c))
     | (refine callT_fl (toC _) (by simp [St.args, St.arg, s0, s3, s4, o, encC] <;> first | rfl | ((repeat' first | rfl | apply And.intro); first | done | fail)) ?_)
     | simp (maxSteps := 4000000) (disch := omega) [s0, s3, s4, o, encC])
      all_goals first
        | omega
        | (refine hK' (l.length - (k + 1)) _ (by omega) ⟨k + 1, ?_⟩
           simp [s0, s3]
           omega)
    · have hkl : k = l.length := by omega
      subst hkl
      repeat' (first
       | refine wp1_seq fun K hK => ?_
       | refine M_cons fun K hK => ?_
       | (refine hK _ ?_; clear hK K)
       | (refine hY _ ?_; clear hX hY X Y)
       | refine wp1_region ?_
       | refine wp1_cond fun X Y hX hY => ?_
       | (refine condK_of (fun c => ?_) (fun c => ?_) <;> (try simp [-List.length_eq_zero_iff] at c))
       | simp (maxSteps := 4000000) (disch := omega) [s0, s3, s4, o])
      all_goals first
        | omega
        | exact hJ _ (by simp [s3]) (by simp [o])
/-- The code of laws.eqWay. -/
def k63 : Code1 :=
 (.seq
 (.region [2,3] false ([]) [
 ⟨some 2,Op.box 55 (Operand.tmp 0),none⟩,
 ⟨some 3,Op.box 55 (Operand.tmp 1),none⟩,
 ⟨some 4,Op.assign (Operand.const (Value.bool false)),none⟩])
 (.seq
 (.seq
 (.region [] false ([]) [
 ⟨some 5,Op.fieldAddr 55 (Operand.tmp 2) 0,none⟩,
 ⟨some 6,Op.load 2 (Operand.tmp 5),none⟩,
 ⟨some 7,Op.fieldAddr 55 (Operand.tmp 3) 0,none⟩,
 ⟨some 8,Op.load 2 (Operand.tmp 7),none⟩,
 ⟨some 9,Op.binOp BinOp.neq 2 (Operand.tmp 6) (Operand.tmp 8) 2,none⟩])
 (.cond (Operand.tmp 9)
 (.seq
 (.region [] false ([]) [
 ⟨some 4,Op.assign (Operand.const (Value.bool false)),none⟩])
 .ret)
 .skip))
 (.seq
 (.seq
 (.region [] false ([]) [
 ⟨some 10,Op.fieldAddr 55 (Operand.tmp 2) 1,none⟩,
 ⟨some 11,Op.load 4 (Operand.tmp 10),none⟩,
 ⟨some 12,Op.fieldAddr 55 (Operand.tmp 3) 1,none⟩,
 ⟨some 13,Op.load 4 (Operand.tmp 12),none⟩,
 ⟨some 14,Op.binOp BinOp.neq 4 (Operand.tmp 11) (Operand.tmp 13) 4,none⟩])
 (.cond (Operand.tmp 14)
 (.seq
 (.region [] false ([]) [
 ⟨some 4,Op.assign (Operand.const (Value.bool false)),none⟩])
 .ret)
 .skip))
 (.seq
 (.seq
 (.region [19] false ([]) [
 ⟨some 15,Op.fieldAddr 55 (Operand.tmp 2) 2,none⟩,
 ⟨some 16,Op.load 22 (Operand.tmp 15),none⟩,
 ⟨some 17,Op.fieldAddr 55 (Operand.tmp 3) 2,none⟩,
 ⟨some 18,Op.load 22 (Operand.tmp 17),none⟩,
 ⟨some 19,Op.call {callee:=Callee.value (Operand.func 32),args:=#[Operand.tmp 16,Operand.tmp 18],argTypes:=#[22,22]},none⟩,
 ⟨some 20,Op.unOp UnOp.not 4 (Operand.tmp 19),none⟩])
 (.cond (Operand.tmp 20)
 (.seq
 (.region [] false ([]) [
 ⟨some 4,Op.assign (Operand.const (Value.bool false)),none⟩])
 .ret)
 .skip))
 (.seq
 (.seq
 (.region [25] false ([]) [
 ⟨some 21,Op.fieldAddr 55 (Operand.tmp 2) 3,none⟩,
 ⟨some 22,Op.load 22 (Operand.tmp 21),none⟩,
 ⟨some 23,Op.fieldAddr 55 (Operand.tmp 3) 3,none⟩,
 ⟨some 24,Op.load 22 (Operand.tmp 23),none⟩,
 ⟨some 25,Op.call {callee:=Callee.value (Operand.func 32),args:=#[Operand.tmp 22,Operand.tmp 24],argTypes:=#[22,22]},none⟩,
 ⟨some 26,Op.unOp UnOp.not 4 (Operand.tmp 25),none⟩])
 (.cond (Operand.tmp 26)
 (.seq
 (.region [] false ([]) [
 ⟨some 4,Op.assign (Operand.const (Value.bool false)),none⟩])
 .ret)
 .skip))
 (.seq
 (.region [] false ([]) [
 ⟨some 4,Op.assign (Operand.const (Value.bool true)),none⟩])
 .ret))))))
theorem eqW (w : Way) (h1 : w.nodes.length ≤ 1048576) (h2 : w.lens.length ≤ 1048576) : CallsF Tryd.prog 63 [.agg (encW w), .agg (encW w)] (.t (.v (.bool true))) [] := by
  refine callsF_of_wp1 (fn := Tryd.f63) (k := k63) (fun _ => []) mixed (by kernel_rfl) rfl (by kernel_rfl) (by kernel_rfl) (by kernel_rfl) rfl (by simp [Tryd.f63]) (by simp [Arg.like]) ?_
  generalize hst : St.enter [.agg (encW w), .agg (encW w)] = st0
  have t0 : st0.tm 0 = .agg ((encW w) |>.map .t) := by rw [← hst]; rfl
  have t1 : st0.tm 1 = .agg ((encW w) |>.map .t) := by rw [← hst]; rfl
  clear hst
  unfold k63
  simp [encW] at t0 t1
  repeat' (first
   | refine wp1_seq fun K hK => ?_
   | refine M_cons fun K hK => ?_
   | (refine hK _ ?_; clear hK K)
   | (refine hY _ ?_; clear hX hY X Y)
   | refine wp1_region ?_
   | refine wp1_cond fun X Y hX hY => ?_
   | (refine condK_of (fun c => ?_) (fun c => ?_) <;> (try simp [-List.length_eq_zero_iff] at c))
   | (refine callT_fl (eqI _ _ ?_ ?_) (by simp [St.args, St.arg, t0, t1] <;> first | rfl | ((repeat' first | rfl | apply And.intro); first | done | fail)) ?_; omega; omega)
   | simp (maxSteps := 4000000) (disch := omega) [t0, t1])
  all_goals try (simp [t0, t1, Back]; done)
/-- The code of laws.eqRelation. -/
def k64 : Code1 :=
 (.seq
 (.region [2,3] false ([]) [
 ⟨some 2,Op.box 58 (Operand.tmp 0),none⟩,
 ⟨some 3,Op.box 58 (Operand.tmp 1),none⟩,
 ⟨some 4,Op.assign (Operand.const (Value.bool false)),none⟩])
 (.seq
 (.seq
 (.region [] false ([]) [
 ⟨some 5,Op.fieldAddr 58 (Operand.tmp 2) 0,none⟩,
 ⟨some 6,Op.load 2 (Operand.tmp 5),none⟩,
 ⟨some 7,Op.fieldAddr 58 (Operand.tmp 3) 0,none⟩,
 ⟨some 8,Op.load 2 (Operand.tmp 7),none⟩,
 ⟨some 9,Op.binOp BinOp.neq 2 (Operand.tmp 6) (Operand.tmp 8) 2,none⟩])
 (.cond (Operand.tmp 9)
 (.seq
 (.region [] false ([]) [
 ⟨some 4,Op.assign (Operand.const (Value.bool false)),none⟩])
 .ret)
 .skip))
 (.seq
 (.seq
 (.region [] false ([]) [
 ⟨some 10,Op.fieldAddr 58 (Operand.tmp 2) 1,none⟩,
 ⟨some 11,Op.load 4 (Operand.tmp 10),none⟩,
 ⟨some 12,Op.fieldAddr 58 (Operand.tmp 3) 1,none⟩,
 ⟨some 13,Op.load 4 (Operand.tmp 12),none⟩,
 ⟨some 14,Op.binOp BinOp.neq 4 (Operand.tmp 11) (Operand.tmp 13) 4,none⟩])
 (.cond (Operand.tmp 14)
 (.seq
 (.region [] false ([]) [
 ⟨some 4,Op.assign (Operand.const (Value.bool false)),none⟩])
 .ret)
 .skip))
 (.seq
 (.seq
 (.region [] false ([]) [
 ⟨some 15,Op.fieldAddr 58 (Operand.tmp 2) 2,none⟩,
 ⟨some 16,Op.load 2 (Operand.tmp 15),none⟩,
 ⟨some 17,Op.fieldAddr 58 (Operand.tmp 3) 2,none⟩,
 ⟨some 18,Op.load 2 (Operand.tmp 17),none⟩,
 ⟨some 19,Op.binOp BinOp.neq 2 (Operand.tmp 16) (Operand.tmp 18) 2,none⟩])
 (.cond (Operand.tmp 19)
 (.seq
 (.region [] false ([]) [
 ⟨some 4,Op.assign (Operand.const (Value.bool false)),none⟩])
 .ret)
 .skip))
 (.seq
 (.seq
 (.region [] false ([]) [
 ⟨some 20,Op.fieldAddr 58 (Operand.tmp 2) 3,none⟩,
 ⟨some 21,Op.load 2 (Operand.tmp 20),none⟩,
 ⟨some 22,Op.fieldAddr 58 (Operand.tmp 3) 3,none⟩,
 ⟨some 23,Op.load 2 (Operand.tmp 22),none⟩,
 ⟨some 24,Op.binOp BinOp.neq 2 (Operand.tmp 21) (Operand.tmp 23) 2,none⟩])
 (.cond (Operand.tmp 24)
 (.seq
 (.region [] false ([]) [
 ⟨some 4,Op.assign (Operand.const (Value.bool false)),none⟩])
 .ret)
 .skip))
 (.seq
 (.seq
 (.region [] false ([]) [
 ⟨some 25,Op.fieldAddr 58 (Operand.tmp 2) 4,none⟩,
 ⟨some 26,Op.load 4 (Operand.tmp 25),none⟩,
 ⟨some 27,Op.fieldAddr 58 (Operand.tmp 3) 4,none⟩,
 ⟨some 28,Op.load 4 (Operand.tmp 27),none⟩,
 ⟨some 29,Op.binOp BinOp.neq 4 (Operand.tmp 26) (Operand.tmp 28) 4,none⟩])
 (.cond (Operand.tmp 29)
 (.seq
 (.region [] false ([]) [
 ⟨some 4,Op.assign (Operand.const (Value.bool false)),none⟩])
 .ret)
 .skip))
 (.seq
 (.seq
 (.region [] false ([]) [
 ⟨some 30,Op.fieldAddr 58 (Operand.tmp 2) 5,none⟩,
 ⟨some 31,Op.load 2 (Operand.tmp 30),none⟩,
 ⟨some 32,Op.fieldAddr 58 (Operand.tmp 3) 5,none⟩,
 ⟨some 33,Op.load 2 (Operand.tmp 32),none⟩,
 ⟨some 34,Op.binOp BinOp.neq 2 (Operand.tmp 31) (Operand.tmp 33) 2,none⟩])
 (.cond (Operand.tmp 34)
 (.seq
 (.region [] false ([]) [
 ⟨some 4,Op.assign (Operand.const (Value.bool false)),none⟩])
 .ret)
 .skip))
 (.seq
 (.seq
 (.region [39] false ([]) [
 ⟨some 35,Op.fieldAddr 58 (Operand.tmp 2) 6,none⟩,
 ⟨some 36,Op.load 22 (Operand.tmp 35),none⟩,
 ⟨some 37,Op.fieldAddr 58 (Operand.tmp 3) 6,none⟩,
 ⟨some 38,Op.load 22 (Operand.tmp 37),none⟩,
 ⟨some 39,Op.call {callee:=Callee.value (Operand.func 32),args:=#[Operand.tmp 36,Operand.tmp 38],argTypes:=#[22,22]},none⟩,
 ⟨some 40,Op.unOp UnOp.not 4 (Operand.tmp 39),none⟩])
 (.cond (Operand.tmp 40)
 (.seq
 (.region [] false ([]) [
 ⟨some 4,Op.assign (Operand.const (Value.bool false)),none⟩])
 .ret)
 .skip))
 (.seq
 (.region [] false ([]) [
 ⟨some 4,Op.assign (Operand.const (Value.bool true)),none⟩])
 .ret)))))))))
theorem eqR (r : Rln) (h1 : r.via.length ≤ 1048576) : CallsF Tryd.prog 64 [.agg (encR r), .agg (encR r)] (.t (.v (.bool true))) [] := by
  refine callsF_of_wp1 (fn := Tryd.f64) (k := k64) (fun _ => []) mixed (by kernel_rfl) rfl (by kernel_rfl) (by kernel_rfl) (by kernel_rfl) rfl (by simp [Tryd.f64]) (by simp [Arg.like]) ?_
  generalize hst : St.enter [.agg (encR r), .agg (encR r)] = st0
  have t0 : st0.tm 0 = .agg ((encR r) |>.map .t) := by rw [← hst]; rfl
  have t1 : st0.tm 1 = .agg ((encR r) |>.map .t) := by rw [← hst]; rfl
  clear hst
  unfold k64
  simp [encR] at t0 t1
  repeat' (first
   | refine wp1_seq fun K hK => ?_
   | refine M_cons fun K hK => ?_
   | (refine hK _ ?_; clear hK K)
   | (refine hY _ ?_; clear hX hY X Y)
   | refine wp1_region ?_
   | refine wp1_cond fun X Y hX hY => ?_
   | (refine condK_of (fun c => ?_) (fun c => ?_) <;> (try simp [-List.length_eq_zero_iff] at c))
   | (refine callT_fl (eqI _ _ ?_ ?_) (by simp [St.args, St.arg, t0, t1] <;> first | rfl | ((repeat' first | rfl | apply And.intro); first | done | fail)) ?_; omega; omega)
   | simp (maxSteps := 4000000) (disch := omega) [t0, t1])
  all_goals try (simp [t0, t1, Back]; done)
/-- The code of laws.eqTurnCost. -/
def k65 : Code1 :=
 (.seq
 (.region [2,3] false ([]) [
 ⟨some 2,Op.box 60 (Operand.tmp 0),none⟩,
 ⟨some 3,Op.box 60 (Operand.tmp 1),none⟩,
 ⟨some 4,Op.assign (Operand.const (Value.bool false)),none⟩])
 (.seq
 (.seq
 (.region [] false ([]) [
 ⟨some 5,Op.fieldAddr 60 (Operand.tmp 2) 0,none⟩,
 ⟨some 6,Op.load 2 (Operand.tmp 5),none⟩,
 ⟨some 7,Op.fieldAddr 60 (Operand.tmp 3) 0,none⟩,
 ⟨some 8,Op.load 2 (Operand.tmp 7),none⟩,
 ⟨some 9,Op.binOp BinOp.neq 2 (Operand.tmp 6) (Operand.tmp 8) 2,none⟩])
 (.cond (Operand.tmp 9)
 (.seq
 (.region [] false ([]) [
 ⟨some 4,Op.assign (Operand.const (Value.bool false)),none⟩])
 .ret)
 .skip))
 (.seq
 (.seq
 (.region [] false ([]) [
 ⟨some 10,Op.fieldAddr 60 (Operand.tmp 2) 1,none⟩,
 ⟨some 11,Op.load 2 (Operand.tmp 10),none⟩,
 ⟨some 12,Op.fieldAddr 60 (Operand.tmp 3) 1,none⟩,
 ⟨some 13,Op.load 2 (Operand.tmp 12),none⟩,
 ⟨some 14,Op.binOp BinOp.neq 2 (Operand.tmp 11) (Operand.tmp 13) 2,none⟩])
 (.cond (Operand.tmp 14)
 (.seq
 (.region [] false ([]) [
 ⟨some 4,Op.assign (Operand.const (Value.bool false)),none⟩])
 .ret)
 .skip))
 (.seq
 (.seq
 (.region [] false ([]) [
 ⟨some 15,Op.fieldAddr 60 (Operand.tmp 2) 2,none⟩,
 ⟨some 16,Op.load 2 (Operand.tmp 15),none⟩,
 ⟨some 17,Op.fieldAddr 60 (Operand.tmp 3) 2,none⟩,
 ⟨some 18,Op.load 2 (Operand.tmp 17),none⟩,
 ⟨some 19,Op.binOp BinOp.neq 2 (Operand.tmp 16) (Operand.tmp 18) 2,none⟩])
 (.cond (Operand.tmp 19)
 (.seq
 (.region [] false ([]) [
 ⟨some 4,Op.assign (Operand.const (Value.bool false)),none⟩])
 .ret)
 .skip))
 (.seq
 (.region [] false ([]) [
 ⟨some 4,Op.assign (Operand.const (Value.bool true)),none⟩])
 .ret)))))
theorem eqC (t : Tc) : CallsF Tryd.prog 65 [.agg (encC t), .agg (encC t)] (.t (.v (.bool true))) [] := by
  refine callsF_of_wp1 (fn := Tryd.f65) (k := k65) (fun _ => []) mixed (by kernel_rfl) rfl (by kernel_rfl) (by kernel_rfl) (by kernel_rfl) rfl (by simp [Tryd.f65]) (by simp [Arg.like]) ?_
  generalize hst : St.enter [.agg (encC t), .agg (encC t)] = st0
  have t0 : st0.tm 0 = .agg ((encC t) |>.map .t) := by rw [← hst]; rfl
  have t1 : st0.tm 1 = .agg ((encC t) |>.map .t) := by rw [← hst]; rfl
  clear hst
  unfold k65
  simp [encC] at t0 t1
  repeat' (first
   | refine wp1_seq fun K hK => ?_
   | refine M_cons fun K hK => ?_
   | (refine hK _ ?_; clear hK K)
   | (refine hY _ ?_; clear hX hY X Y)
   | refine wp1_region ?_
   | refine wp1_cond fun X Y hX hY => ?_
   | (refine condK_of (fun c => ?_) (fun c => ?_) <;> (try simp [-List.length_eq_zero_iff] at c))
   | simp (maxSteps := 4000000) (disch := omega) [t0, t1])
  all_goals try (simp [t0, t1, Back]; done)
/-- The code of laws.eqWayS. -/
def k33 : Code1 :=
 (.seq
 (.region [] false ([]) [
 ⟨some 4,Op.assign (Operand.const (Value.bool false)),none⟩])
 (.seq
 (.seq
 (.region [] false ([]) [
 ⟨some 6,Op.move (Operand.tmp 0),none⟩,
 ⟨some 7,Op.call {callee:=Callee.builtin Builtin.len,args:=#[Operand.tmp 6],argTypes:=#[31]},none⟩,
 ⟨some 8,Op.move (Operand.tmp 1),none⟩,
 ⟨some 9,Op.call {callee:=Callee.builtin Builtin.len,args:=#[Operand.tmp 8],argTypes:=#[31]},none⟩,
 ⟨some 10,Op.binOp BinOp.neq 3 (Operand.tmp 7) (Operand.tmp 9) 3,none⟩])
 (.cond (Operand.tmp 10)
 (.seq
 (.region [] false ([]) [
 ⟨some 4,Op.assign (Operand.const (Value.bool false)),none⟩])
 .ret)
 .skip))
 (.seq
 (.seq
 (.region [] false ([]) [
 ⟨some 5,Op.assign (Operand.const (Value.int IntKind.i64 0)),none⟩])
 (.block 0
 (.loop
 (.seq
 (.seq
 (.region [] false ([]) [
 ⟨some 11,Op.move (Operand.tmp 5),none⟩,
 ⟨some 12,Op.move (Operand.tmp 0),none⟩,
 ⟨some 13,Op.call {callee:=Callee.builtin Builtin.len,args:=#[Operand.tmp 12],argTypes:=#[31]},none⟩,
 ⟨some 14,Op.binOp BinOp.lss 3 (Operand.tmp 11) (Operand.tmp 13) 3,none⟩])
 (.cond (Operand.tmp 14)
 .skip
 (.exit 0)))
 (.seq
 (.block 1
 (.seq
 (.region [25] true ([]) [
 ⟨some 17,Op.move (Operand.tmp 0),none⟩,
 ⟨some 18,Op.move (Operand.tmp 5),none⟩,
 ⟨some 19,Op.indexAddr 31 (Operand.tmp 17) (Operand.tmp 18),none⟩,
 ⟨some 20,Op.load 55 (Operand.tmp 19),none⟩,
 ⟨some 21,Op.move (Operand.tmp 1),none⟩,
 ⟨some 22,Op.move (Operand.tmp 5),none⟩,
 ⟨some 23,Op.indexAddr 31 (Operand.tmp 21) (Operand.tmp 22),none⟩,
 ⟨some 24,Op.load 55 (Operand.tmp 23),none⟩,
 ⟨some 25,Op.call {callee:=Callee.value (Operand.func 63),args:=#[Operand.tmp 20,Operand.tmp 24],argTypes:=#[55,55]},none⟩,
 ⟨some 26,Op.unOp UnOp.not 4 (Operand.tmp 25),none⟩])
 (.cond (Operand.tmp 26)
 (.seq
 (.region [] false ([]) [
 ⟨some 4,Op.assign (Operand.const (Value.bool false)),none⟩])
 .ret)
 .skip)))
 (.region [] false ([]) [
 ⟨some 15,Op.move (Operand.tmp 5),none⟩,
 ⟨some 16,Op.binOp BinOp.add 3 (Operand.tmp 15) (Operand.const (Value.int IntKind.i64 1)) 3,none⟩,
 ⟨some 5,Op.assign (Operand.tmp 16),none⟩]))))))
 (.seq
 (.region [] false ([]) [
 ⟨some 4,Op.assign (Operand.const (Value.bool true)),none⟩])
 .ret))))
theorem eqWs (l : List Way) (hl : l.length ≤ 1048576) (h1 : ∀ i : Nat, i < l.length → (nth l i).nodes.length ≤ 1048576) (h2 : ∀ i : Nat, i < l.length → (nth l i).lens.length ≤ 1048576) :
    CallsF Tryd.prog 33 [.val (recs encW l), .val (recs encW l)] (.t (.v (.bool true))) [] := by
  refine callsF_of_wp1 (fn := Tryd.f33) (k := k33) (fun _ => []) mixed (by kernel_rfl) rfl (by kernel_rfl) (by kernel_rfl) (by kernel_rfl) rfl (by simp [Tryd.f33]) (by simp [Arg.like]) ?_
  generalize hst : St.enter [.val (recs encW l), .val (recs encW l)] = st0
  have t0 : st0.tm 0 = .t (recs encW l) := by rw [← hst]; rfl
  have t1 : st0.tm 1 = .t (recs encW l) := by rw [← hst]; rfl
  clear hst
  unfold k33
  repeat' (first
   | refine wp1_seq fun K hK => ?_
   | refine M_cons fun K hK => ?_
   | (refine hK _ ?_; clear hK K)
   | (refine hY _ ?_; clear hX hY X Y)
   | refine wp1_block ?_
   | refine wp1_region ?_
   | refine wp1_cond fun X Y hX hY => ?_
   | (refine condK_of (fun c => ?_) (fun c => ?_) <;> (try simp [-List.length_eq_zero_iff] at c))
   | simp (maxSteps := 4000000) (disch := omega) [t0, t1])
  have hJ : ∀ s, K s := by
    rintro s
    repeat' (first
     | refine wp1_seq fun K hK => ?_
     | refine M_cons fun K hK => ?_
     | (refine hK _ ?_; clear hK K)
     | refine wp1_region ?_
     | simp (maxSteps := 4000000) (disch := omega) [])
    all_goals try (simp [Back]; done)
  clear hK
  refine wp1_loop (fun n s => ∃ k : Nat, s.tm 0 = .t (recs encW l) ∧ s.tm 1 = .t (recs encW l) ∧ s.tm 5 = .t (.v (.int .i64 k)) ∧ k ≤ l.length ∧ n = l.length - k) l.length ?_ ?_
  · exact ⟨0, by simp [t0, t1]⟩
  · rintro n s ⟨k, s0, s1, s5, hk, rfl⟩ K' hK'
    have g1 := h1 k
    have g2 := h2 k
    by_cases hlt : k < l.length
    · repeat' (first
     | refine wp1_seq fun K hK => ?_
     | refine M_cons fun K hK => ?_
     | (refine hK _ ?_; clear hK K)
     | (refine hX _ ?_; clear hX hY X Y)
     | (refine hY _ ?_; clear hX hY X Y)
     | refine wp1_block ?_
     | refine wp1_region ?_
     | refine wp1_cond fun X Y hX hY => ?_
     | (refine condK_of (fun c => ?_) (fun c => ?_) <;> (try simp [-List.length_eq_zero_iff] at c))
     | (refine callT_fl (eqW _ ?_ ?_) (by simp [St.args, St.arg, s0, s1, s5, encW] <;> first | rfl | ((repeat' first | rfl | apply And.intro); first | done | fail)) ?_; omega; omega)
     | simp (maxSteps := 4000000) (disch := omega) [s0, s1, s5, encW])
      all_goals first
        | omega
        | (refine hK' (l.length - (k + 1)) _ (by omega) ⟨k + 1, ?_⟩
           simp [s0, s1]
           omega)
    · repeat' (first
     | refine wp1_seq fun K hK => ?_
     | refine M_cons fun K hK => ?_
     | (refine hK _ ?_; clear hK K)
     | (refine hX _ ?_; clear hX hY X Y)
     | (refine hY _ ?_; clear hX hY X Y)
     | refine wp1_block ?_
     | refine wp1_region ?_
     | refine wp1_cond fun X Y hX hY => ?_
     | (refine condK_of (fun c => ?_) (fun c => ?_) <;> (try simp [-List.length_eq_zero_iff] at c))
     | simp (maxSteps := 4000000) (disch := omega) [s0, s1, s5])
      all_goals first
        | omega
        | exact hJ _
/-- The code of laws.eqRelationS. -/
def k34 : Code1 :=
 (.seq
 (.region [] false ([]) [
 ⟨some 4,Op.assign (Operand.const (Value.bool false)),none⟩])
 (.seq
 (.seq
 (.region [] false ([]) [
 ⟨some 6,Op.move (Operand.tmp 0),none⟩,
 ⟨some 7,Op.call {callee:=Callee.builtin Builtin.len,args:=#[Operand.tmp 6],argTypes:=#[32]},none⟩,
 ⟨some 8,Op.move (Operand.tmp 1),none⟩,
 ⟨some 9,Op.call {callee:=Callee.builtin Builtin.len,args:=#[Operand.tmp 8],argTypes:=#[32]},none⟩,
 ⟨some 10,Op.binOp BinOp.neq 3 (Operand.tmp 7) (Operand.tmp 9) 3,none⟩])
 (.cond (Operand.tmp 10)
 (.seq
 (.region [] false ([]) [
 ⟨some 4,Op.assign (Operand.const (Value.bool false)),none⟩])
 .ret)
 .skip))
 (.seq
 (.seq
 (.region [] false ([]) [
 ⟨some 5,Op.assign (Operand.const (Value.int IntKind.i64 0)),none⟩])
 (.block 0
 (.loop
 (.seq
 (.seq
 (.region [] false ([]) [
 ⟨some 11,Op.move (Operand.tmp 5),none⟩,
 ⟨some 12,Op.move (Operand.tmp 0),none⟩,
 ⟨some 13,Op.call {callee:=Callee.builtin Builtin.len,args:=#[Operand.tmp 12],argTypes:=#[32]},none⟩,
 ⟨some 14,Op.binOp BinOp.lss 3 (Operand.tmp 11) (Operand.tmp 13) 3,none⟩])
 (.cond (Operand.tmp 14)
 .skip
 (.exit 0)))
 (.seq
 (.block 1
 (.seq
 (.region [25] true ([]) [
 ⟨some 17,Op.move (Operand.tmp 0),none⟩,
 ⟨some 18,Op.move (Operand.tmp 5),none⟩,
 ⟨some 19,Op.indexAddr 32 (Operand.tmp 17) (Operand.tmp 18),none⟩,
 ⟨some 20,Op.load 58 (Operand.tmp 19),none⟩,
 ⟨some 21,Op.move (Operand.tmp 1),none⟩,
 ⟨some 22,Op.move (Operand.tmp 5),none⟩,
 ⟨some 23,Op.indexAddr 32 (Operand.tmp 21) (Operand.tmp 22),none⟩,
 ⟨some 24,Op.load 58 (Operand.tmp 23),none⟩,
 ⟨some 25,Op.call {callee:=Callee.value (Operand.func 64),args:=#[Operand.tmp 20,Operand.tmp 24],argTypes:=#[58,58]},none⟩,
 ⟨some 26,Op.unOp UnOp.not 4 (Operand.tmp 25),none⟩])
 (.cond (Operand.tmp 26)
 (.seq
 (.region [] false ([]) [
 ⟨some 4,Op.assign (Operand.const (Value.bool false)),none⟩])
 .ret)
 .skip)))
 (.region [] false ([]) [
 ⟨some 15,Op.move (Operand.tmp 5),none⟩,
 ⟨some 16,Op.binOp BinOp.add 3 (Operand.tmp 15) (Operand.const (Value.int IntKind.i64 1)) 3,none⟩,
 ⟨some 5,Op.assign (Operand.tmp 16),none⟩]))))))
 (.seq
 (.region [] false ([]) [
 ⟨some 4,Op.assign (Operand.const (Value.bool true)),none⟩])
 .ret))))
theorem eqRs (l : List Rln) (hl : l.length ≤ 1048576) (h1 : ∀ i : Nat, i < l.length → (nth l i).via.length ≤ 1048576) :
    CallsF Tryd.prog 34 [.val (recs encR l), .val (recs encR l)] (.t (.v (.bool true))) [] := by
  refine callsF_of_wp1 (fn := Tryd.f34) (k := k34) (fun _ => []) mixed (by kernel_rfl) rfl (by kernel_rfl) (by kernel_rfl) (by kernel_rfl) rfl (by simp [Tryd.f34]) (by simp [Arg.like]) ?_
  generalize hst : St.enter [.val (recs encR l), .val (recs encR l)] = st0
  have t0 : st0.tm 0 = .t (recs encR l) := by rw [← hst]; rfl
  have t1 : st0.tm 1 = .t (recs encR l) := by rw [← hst]; rfl
  clear hst
  unfold k34
  repeat' (first
   | refine wp1_seq fun K hK => ?_
   | refine M_cons fun K hK => ?_
   | (refine hK _ ?_; clear hK K)
   | (refine hY _ ?_; clear hX hY X Y)
   | refine wp1_block ?_
   | refine wp1_region ?_
   | refine wp1_cond fun X Y hX hY => ?_
   | (refine condK_of (fun c => ?_) (fun c => ?_) <;> (try simp [-List.length_eq_zero_iff] at c))
   | simp (maxSteps := 4000000) (disch := omega) [t0, t1])
  have hJ : ∀ s, K s := by
    rintro s
    repeat' (first
     | refine wp1_seq fun K hK => ?_
     | refine M_cons fun K hK => ?_
     | (refine hK _ ?_; clear hK K)
     | refine wp1_region ?_
     | simp (maxSteps := 4000000) (disch := omega) [])
    all_goals try (simp [Back]; done)
  clear hK
  refine wp1_loop (fun n s => ∃ k : Nat, s.tm 0 = .t (recs encR l) ∧ s.tm 1 = .t (recs encR l) ∧ s.tm 5 = .t (.v (.int .i64 k)) ∧ k ≤ l.length ∧ n = l.length - k) l.length ?_ ?_
  · exact ⟨0, by simp [t0, t1]⟩
  · rintro n s ⟨k, s0, s1, s5, hk, rfl⟩ K' hK'
    have g1 := h1 k
    by_cases hlt : k < l.length
    · repeat' (first
     | refine wp1_seq fun K hK => ?_
     | refine M_cons fun K hK => ?_
     | (refine hK _ ?_; clear hK K)
     | (refine hX _ ?_; clear hX hY X Y)
     | (refine hY _ ?_; clear hX hY X Y)
     | refine wp1_block ?_
     | refine wp1_region ?_
     | refine wp1_cond fun X Y hX hY => ?_
     | (refine condK_of (fun c => ?_) (fun c => ?_) <;> (try simp [-List.length_eq_zero_iff] at c))
     | (refine callT_fl (eqR _ ?_) (by simp [St.args, St.arg, s0, s1, s5, encR] <;> first | rfl | ((repeat' first | rfl | apply And.intro); first | done | fail)) ?_; omega)
     | simp (maxSteps := 4000000) (disch := omega) [s0, s1, s5, encR])
      all_goals first
        | omega
        | (refine hK' (l.length - (k + 1)) _ (by omega) ⟨k + 1, ?_⟩
           simp [s0, s1]
           omega)
    · repeat' (first
     | refine wp1_seq fun K hK => ?_
     | refine M_cons fun K hK => ?_
     | (refine hK _ ?_; clear hK K)
     | (refine hX _ ?_; clear hX hY X Y)
     | (refine hY _ ?_; clear hX hY X Y)
     | refine wp1_block ?_
     | refine wp1_region ?_
     | refine wp1_cond fun X Y hX hY => ?_
     | (refine condK_of (fun c => ?_) (fun c => ?_) <;> (try simp [-List.length_eq_zero_iff] at c))
     | simp (maxSteps := 4000000) (disch := omega) [s0, s1, s5])
      all_goals first
        | omega
        | exact hJ _
/-- The code of laws.eqTurnCostS. -/
def k35 : Code1 :=
 (.seq
 (.region [] false ([]) [
 ⟨some 4,Op.assign (Operand.const (Value.bool false)),none⟩])
 (.seq
 (.seq
 (.region [] false ([]) [
 ⟨some 6,Op.move (Operand.tmp 0),none⟩,
 ⟨some 7,Op.call {callee:=Callee.builtin Builtin.len,args:=#[Operand.tmp 6],argTypes:=#[33]},none⟩,
 ⟨some 8,Op.move (Operand.tmp 1),none⟩,
 ⟨some 9,Op.call {callee:=Callee.builtin Builtin.len,args:=#[Operand.tmp 8],argTypes:=#[33]},none⟩,
 ⟨some 10,Op.binOp BinOp.neq 3 (Operand.tmp 7) (Operand.tmp 9) 3,none⟩])
 (.cond (Operand.tmp 10)
 (.seq
 (.region [] false ([]) [
 ⟨some 4,Op.assign (Operand.const (Value.bool false)),none⟩])
 .ret)
 .skip))
 (.seq
 (.seq
 (.region [] false ([]) [
 ⟨some 5,Op.assign (Operand.const (Value.int IntKind.i64 0)),none⟩])
 (.block 0
 (.loop
 (.seq
 (.seq
 (.region [] false ([]) [
 ⟨some 11,Op.move (Operand.tmp 5),none⟩,
 ⟨some 12,Op.move (Operand.tmp 0),none⟩,
 ⟨some 13,Op.call {callee:=Callee.builtin Builtin.len,args:=#[Operand.tmp 12],argTypes:=#[33]},none⟩,
 ⟨some 14,Op.binOp BinOp.lss 3 (Operand.tmp 11) (Operand.tmp 13) 3,none⟩])
 (.cond (Operand.tmp 14)
 .skip
 (.exit 0)))
 (.seq
 (.block 1
 (.seq
 (.region [25] true ([]) [
 ⟨some 17,Op.move (Operand.tmp 0),none⟩,
 ⟨some 18,Op.move (Operand.tmp 5),none⟩,
 ⟨some 19,Op.indexAddr 33 (Operand.tmp 17) (Operand.tmp 18),none⟩,
 ⟨some 20,Op.load 60 (Operand.tmp 19),none⟩,
 ⟨some 21,Op.move (Operand.tmp 1),none⟩,
 ⟨some 22,Op.move (Operand.tmp 5),none⟩,
 ⟨some 23,Op.indexAddr 33 (Operand.tmp 21) (Operand.tmp 22),none⟩,
 ⟨some 24,Op.load 60 (Operand.tmp 23),none⟩,
 ⟨some 25,Op.call {callee:=Callee.value (Operand.func 65),args:=#[Operand.tmp 20,Operand.tmp 24],argTypes:=#[60,60]},none⟩,
 ⟨some 26,Op.unOp UnOp.not 4 (Operand.tmp 25),none⟩])
 (.cond (Operand.tmp 26)
 (.seq
 (.region [] false ([]) [
 ⟨some 4,Op.assign (Operand.const (Value.bool false)),none⟩])
 .ret)
 .skip)))
 (.region [] false ([]) [
 ⟨some 15,Op.move (Operand.tmp 5),none⟩,
 ⟨some 16,Op.binOp BinOp.add 3 (Operand.tmp 15) (Operand.const (Value.int IntKind.i64 1)) 3,none⟩,
 ⟨some 5,Op.assign (Operand.tmp 16),none⟩]))))))
 (.seq
 (.region [] false ([]) [
 ⟨some 4,Op.assign (Operand.const (Value.bool true)),none⟩])
 .ret))))
theorem eqCs (l : List Tc) (hl : l.length ≤ 1048576)  :
    CallsF Tryd.prog 35 [.val (recs encC l), .val (recs encC l)] (.t (.v (.bool true))) [] := by
  refine callsF_of_wp1 (fn := Tryd.f35) (k := k35) (fun _ => []) mixed (by kernel_rfl) rfl (by kernel_rfl) (by kernel_rfl) (by kernel_rfl) rfl (by simp [Tryd.f35]) (by simp [Arg.like]) ?_
  generalize hst : St.enter [.val (recs encC l), .val (recs encC l)] = st0
  have t0 : st0.tm 0 = .t (recs encC l) := by rw [← hst]; rfl
  have t1 : st0.tm 1 = .t (recs encC l) := by rw [← hst]; rfl
  clear hst
  unfold k35
  repeat' (first
   | refine wp1_seq fun K hK => ?_
   | refine M_cons fun K hK => ?_
   | (refine hK _ ?_; clear hK K)
   | (refine hY _ ?_; clear hX hY X Y)
   | refine wp1_block ?_
   | refine wp1_region ?_
   | refine wp1_cond fun X Y hX hY => ?_
   | (refine condK_of (fun c => ?_) (fun c => ?_) <;> (try simp [-List.length_eq_zero_iff] at c))
   | simp (maxSteps := 4000000) (disch := omega) [t0, t1])
  have hJ : ∀ s, K s := by
    rintro s
    repeat' (first
     | refine wp1_seq fun K hK => ?_
     | refine M_cons fun K hK => ?_
     | (refine hK _ ?_; clear hK K)
     | refine wp1_region ?_
     | simp (maxSteps := 4000000) (disch := omega) [])
    all_goals try (simp [Back]; done)
  clear hK
  refine wp1_loop (fun n s => ∃ k : Nat, s.tm 0 = .t (recs encC l) ∧ s.tm 1 = .t (recs encC l) ∧ s.tm 5 = .t (.v (.int .i64 k)) ∧ k ≤ l.length ∧ n = l.length - k) l.length ?_ ?_
  · exact ⟨0, by simp [t0, t1]⟩
  · rintro n s ⟨k, s0, s1, s5, hk, rfl⟩ K' hK'
    by_cases hlt : k < l.length
    · repeat' (first
     | refine wp1_seq fun K hK => ?_
     | refine M_cons fun K hK => ?_
     | (refine hK _ ?_; clear hK K)
     | (refine hX _ ?_; clear hX hY X Y)
     | (refine hY _ ?_; clear hX hY X Y)
     | refine wp1_block ?_
     | refine wp1_region ?_
     | refine wp1_cond fun X Y hX hY => ?_
     | (refine condK_of (fun c => ?_) (fun c => ?_) <;> (try simp [-List.length_eq_zero_iff] at c))
     | (refine callT_fl (eqC _) (by simp [St.args, St.arg, s0, s1, s5, encC] <;> first | rfl | ((repeat' first | rfl | apply And.intro); first | done | fail)) ?_)
     | simp (maxSteps := 4000000) (disch := omega) [s0, s1, s5, encC])
      all_goals first
        | omega
        | (refine hK' (l.length - (k + 1)) _ (by omega) ⟨k + 1, ?_⟩
           simp [s0, s1]
           omega)
    · repeat' (first
     | refine wp1_seq fun K hK => ?_
     | refine M_cons fun K hK => ?_
     | (refine hK _ ?_; clear hK K)
     | (refine hX _ ?_; clear hX hY X Y)
     | (refine hY _ ?_; clear hX hY X Y)
     | refine wp1_block ?_
     | refine wp1_region ?_
     | refine wp1_cond fun X Y hX hY => ?_
     | (refine condK_of (fun c => ?_) (fun c => ?_) <;> (try simp [-List.length_eq_zero_iff] at c))
     | simp (maxSteps := 4000000) (disch := omega) [s0, s1, s5])
      all_goals first
        | omega
        | exact hJ _
def rvN (n : Net) : List RV := [.own 1 (intRow n.nodes), .own 4 (recRow encW n.ways), .own 7 (recRow encR n.rels), .own 3 (recRow encC n.tcs), .t (.v (.int .i64 n.uturn))]
/-- The code of laws.toNet. -/
def k7 : Code1 :=
 (.seq
 (.region [1,2] false ([]) [
 ⟨some 1,Op.box 27 (Operand.tmp 0),none⟩,
 ⟨some 2,Op.alloc 35,none⟩])
 (.seq
 (.region [3] false ([]) [
 ⟨some 3,Op.alloc 35,none⟩])
 (.seq
 (.region [6] false ([]) [
 ⟨some 4,Op.fieldAddr 27 (Operand.tmp 1) 0,none⟩,
 ⟨some 5,Op.load 22 (Operand.tmp 4),none⟩,
 ⟨some 6,Op.call {callee:=Callee.value (Operand.func 27),args:=#[Operand.tmp 5],argTypes:=#[22]},none⟩,
 ⟨some 7,Op.fieldAddr 35 (Operand.tmp 3) 0,none⟩,
 ⟨none,Op.store 22 (Operand.tmp 7) (Operand.tmp 6),none⟩])
 (.seq
 (.region [10] false ([]) [
 ⟨some 8,Op.fieldAddr 27 (Operand.tmp 1) 1,none⟩,
 ⟨some 9,Op.load 23 (Operand.tmp 8),none⟩,
 ⟨some 10,Op.call {callee:=Callee.value (Operand.func 28),args:=#[Operand.tmp 9],argTypes:=#[23]},none⟩,
 ⟨some 11,Op.fieldAddr 35 (Operand.tmp 3) 1,none⟩,
 ⟨none,Op.store 31 (Operand.tmp 11) (Operand.tmp 10),none⟩])
 (.seq
 (.region [14] false ([]) [
 ⟨some 12,Op.fieldAddr 27 (Operand.tmp 1) 2,none⟩,
 ⟨some 13,Op.load 24 (Operand.tmp 12),none⟩,
 ⟨some 14,Op.call {callee:=Callee.value (Operand.func 29),args:=#[Operand.tmp 13],argTypes:=#[24]},none⟩,
 ⟨some 15,Op.fieldAddr 35 (Operand.tmp 3) 2,none⟩,
 ⟨none,Op.store 32 (Operand.tmp 15) (Operand.tmp 14),none⟩])
 (.seq
 (.region [18] false ([]) [
 ⟨some 16,Op.fieldAddr 27 (Operand.tmp 1) 3,none⟩,
 ⟨some 17,Op.load 25 (Operand.tmp 16),none⟩,
 ⟨some 18,Op.call {callee:=Callee.value (Operand.func 30),args:=#[Operand.tmp 17],argTypes:=#[25]},none⟩,
 ⟨some 19,Op.fieldAddr 35 (Operand.tmp 3) 3,none⟩,
 ⟨none,Op.store 33 (Operand.tmp 19) (Operand.tmp 18),none⟩])
 (.seq
 (.region [] false ([]) [
 ⟨some 20,Op.fieldAddr 27 (Operand.tmp 1) 4,none⟩,
 ⟨some 21,Op.load 2 (Operand.tmp 20),none⟩,
 ⟨some 22,Op.fieldAddr 35 (Operand.tmp 3) 4,none⟩,
 ⟨none,Op.store 2 (Operand.tmp 22) (Operand.tmp 21),none⟩])
 (.seq
 (.region [] false ([]) [
 ⟨some 23,Op.load 35 (Operand.tmp 3),none⟩,
 ⟨none,Op.store 35 (Operand.tmp 2) (Operand.tmp 23),none⟩])
 .ret))))))))
set_option maxHeartbeats 1000000 in
theorem toN (n : Net) (h : LN n) : CallsF Tryd.prog 7 [.agg (encN n)] (.agg (rvN n)) [] := by
  obtain ⟨h1, h2, h3, h4, h5, h6, h7⟩ := h
  refine callsF_of_wp1 (fn := Tryd.f7) (k := k7) (fun _ => []) mixed (by kernel_rfl) rfl (by kernel_rfl) (by kernel_rfl) (by kernel_rfl) rfl (by simp [Tryd.f7]) (by simp [Arg.like]) ?_
  generalize hst : St.enter [.agg (encN n)] = st0
  have t0 : st0.tm 0 = .agg ((encN n) |>.map .t) := by rw [← hst]; rfl
  clear hst
  unfold k7
  simp [encN] at t0
  repeat' (first
   | refine wp1_seq fun K hK => ?_
   | refine M_cons fun K hK => ?_
   | (refine hK _ ?_; clear hK K)
   | refine wp1_region ?_
   | (refine callT_fl (toI _ ?_) (by simp [St.args, St.arg, t0] <;> first | rfl | ((repeat' first | rfl | apply And.intro); first | done | fail)) ?_; omega)
   | (refine callT_gen false (toWs n.ways h2 h5 h6) (by simp) (by simp [St.args, St.arg, t0] <;> first | rfl | ((repeat' first | rfl | apply And.intro); first | done | fail)) (by simp [apartArgs, mutsOf, noRow]) (by simp [callFrz, valsOf, outEff]) ?_)
   | (refine callT_gen false (toRs n.rels h3 h7) (by simp) (by simp [St.args, St.arg, t0] <;> first | rfl | ((repeat' first | rfl | apply And.intro); first | done | fail)) (by simp [apartArgs, mutsOf, noRow]) (by simp [callFrz, valsOf, outEff]) ?_)
   | (refine callT_gen false (toCs n.tcs h4) (by simp) (by simp [St.args, St.arg, t0] <;> first | rfl | ((repeat' first | rfl | apply And.intro); first | done | fail)) (by simp [apartArgs, mutsOf, noRow]) (by simp [callFrz, valsOf, outEff]) ?_)
   | simp (maxSteps := 4000000) (disch := omega) [t0])
  simp [Back, rvN]
/-- The code of laws.eqNet. -/
def k10 : Code1 :=
 (.seq
 (.region [2,3] false ([]) [
 ⟨some 2,Op.box 35 (Operand.tmp 0),none⟩,
 ⟨some 3,Op.box 35 (Operand.tmp 1),none⟩,
 ⟨some 4,Op.assign (Operand.const (Value.bool false)),none⟩])
 (.seq
 (.seq
 (.region [9] false ([]) [
 ⟨some 5,Op.fieldAddr 35 (Operand.tmp 2) 0,none⟩,
 ⟨some 6,Op.load 22 (Operand.tmp 5),none⟩,
 ⟨some 7,Op.fieldAddr 35 (Operand.tmp 3) 0,none⟩,
 ⟨some 8,Op.load 22 (Operand.tmp 7),none⟩,
 ⟨some 9,Op.call {callee:=Callee.value (Operand.func 32),args:=#[Operand.tmp 6,Operand.tmp 8],argTypes:=#[22,22]},none⟩,
 ⟨some 10,Op.unOp UnOp.not 4 (Operand.tmp 9),none⟩])
 (.cond (Operand.tmp 10)
 (.seq
 (.region [] false ([]) [
 ⟨some 4,Op.assign (Operand.const (Value.bool false)),none⟩])
 .ret)
 .skip))
 (.seq
 (.seq
 (.region [15] false ([]) [
 ⟨some 11,Op.fieldAddr 35 (Operand.tmp 2) 1,none⟩,
 ⟨some 12,Op.load 31 (Operand.tmp 11),none⟩,
 ⟨some 13,Op.fieldAddr 35 (Operand.tmp 3) 1,none⟩,
 ⟨some 14,Op.load 31 (Operand.tmp 13),none⟩,
 ⟨some 15,Op.call {callee:=Callee.value (Operand.func 33),args:=#[Operand.tmp 12,Operand.tmp 14],argTypes:=#[31,31]},none⟩,
 ⟨some 16,Op.unOp UnOp.not 4 (Operand.tmp 15),none⟩])
 (.cond (Operand.tmp 16)
 (.seq
 (.region [] false ([]) [
 ⟨some 4,Op.assign (Operand.const (Value.bool false)),none⟩])
 .ret)
 .skip))
 (.seq
 (.seq
 (.region [21] false ([]) [
 ⟨some 17,Op.fieldAddr 35 (Operand.tmp 2) 2,none⟩,
 ⟨some 18,Op.load 32 (Operand.tmp 17),none⟩,
 ⟨some 19,Op.fieldAddr 35 (Operand.tmp 3) 2,none⟩,
 ⟨some 20,Op.load 32 (Operand.tmp 19),none⟩,
 ⟨some 21,Op.call {callee:=Callee.value (Operand.func 34),args:=#[Operand.tmp 18,Operand.tmp 20],argTypes:=#[32,32]},none⟩,
 ⟨some 22,Op.unOp UnOp.not 4 (Operand.tmp 21),none⟩])
 (.cond (Operand.tmp 22)
 (.seq
 (.region [] false ([]) [
 ⟨some 4,Op.assign (Operand.const (Value.bool false)),none⟩])
 .ret)
 .skip))
 (.seq
 (.seq
 (.region [27] false ([]) [
 ⟨some 23,Op.fieldAddr 35 (Operand.tmp 2) 3,none⟩,
 ⟨some 24,Op.load 33 (Operand.tmp 23),none⟩,
 ⟨some 25,Op.fieldAddr 35 (Operand.tmp 3) 3,none⟩,
 ⟨some 26,Op.load 33 (Operand.tmp 25),none⟩,
 ⟨some 27,Op.call {callee:=Callee.value (Operand.func 35),args:=#[Operand.tmp 24,Operand.tmp 26],argTypes:=#[33,33]},none⟩,
 ⟨some 28,Op.unOp UnOp.not 4 (Operand.tmp 27),none⟩])
 (.cond (Operand.tmp 28)
 (.seq
 (.region [] false ([]) [
 ⟨some 4,Op.assign (Operand.const (Value.bool false)),none⟩])
 .ret)
 .skip))
 (.seq
 (.seq
 (.region [] false ([]) [
 ⟨some 29,Op.fieldAddr 35 (Operand.tmp 2) 4,none⟩,
 ⟨some 30,Op.load 2 (Operand.tmp 29),none⟩,
 ⟨some 31,Op.fieldAddr 35 (Operand.tmp 3) 4,none⟩,
 ⟨some 32,Op.load 2 (Operand.tmp 31),none⟩,
 ⟨some 33,Op.binOp BinOp.neq 2 (Operand.tmp 30) (Operand.tmp 32) 2,none⟩])
 (.cond (Operand.tmp 33)
 (.seq
 (.region [] false ([]) [
 ⟨some 4,Op.assign (Operand.const (Value.bool false)),none⟩])
 .ret)
 .skip))
 (.seq
 (.region [] false ([]) [
 ⟨some 4,Op.assign (Operand.const (Value.bool true)),none⟩])
 .ret)))))))
set_option maxHeartbeats 1000000 in
theorem eqN (n : Net) (h : LN n) : CallsF Tryd.prog 10 [.agg (encN n), .agg (encN n)] (.t (.v (.bool true))) [] := by
  obtain ⟨h1, h2, h3, h4, h5, h6, h7⟩ := h
  refine callsF_of_wp1 (fn := Tryd.f10) (k := k10) (fun _ => []) mixed (by kernel_rfl) rfl (by kernel_rfl) (by kernel_rfl) (by kernel_rfl) rfl (by simp [Tryd.f10]) (by simp [Arg.like]) ?_
  generalize hst : St.enter [.agg (encN n), .agg (encN n)] = st0
  have t0 : st0.tm 0 = .agg ((encN n) |>.map .t) := by rw [← hst]; rfl
  have t1 : st0.tm 1 = .agg ((encN n) |>.map .t) := by rw [← hst]; rfl
  clear hst
  unfold k10
  simp [encN] at t0 t1
  repeat' (first
   | refine wp1_seq fun K hK => ?_
   | refine M_cons fun K hK => ?_
   | (refine hK _ ?_; clear hK K)
   | (refine hY _ ?_; clear hX hY X Y)
   | refine wp1_region ?_
   | refine wp1_cond fun X Y hX hY => ?_
   | (refine condK_of (fun c => ?_) (fun c => ?_) <;> (try simp [-List.length_eq_zero_iff] at c))
   | (refine callT_fl (eqI _ _ ?_ ?_) (by simp [St.args, St.arg, t0, t1] <;> first | rfl | ((repeat' first | rfl | apply And.intro); first | done | fail)) ?_; omega; omega)
   | (refine callT_fl (eqWs n.ways h2 h5 h6) (by simp [St.args, St.arg, t0, t1] <;> first | rfl | ((repeat' first | rfl | apply And.intro); first | done | fail)) ?_)
   | (refine callT_fl (eqRs n.rels h3 h7) (by simp [St.args, St.arg, t0, t1] <;> first | rfl | ((repeat' first | rfl | apply And.intro); first | done | fail)) ?_)
   | (refine callT_fl (eqCs n.tcs h4) (by simp [St.args, St.arg, t0, t1] <;> first | rfl | ((repeat' first | rfl | apply And.intro); first | done | fail)) ?_)
   | simp (maxSteps := 4000000) (disch := omega) [t0, t1])
  all_goals try (simp [t0, t1, Back]; done)
end Cal

set_option linter.unusedSimpArgs false
set_option linter.unusedVariables false
namespace Cal
open Go Go.Proofs
set_option maxRecDepth 100000
/-- A network whose rows are all written on, under their names. -/
structure NetOb (s : St) (n : Net) : Prop where
  nodes : s.ob (70006, 0) = some (.row 1 (intRow n.nodes))
  ways : s.ob (70004, 0) = some (.big 4 (wcells (fun i => ((nth n.ways (i : Int)).id, (nth n.ways (i : Int)).two)) (fun i => (nth n.ways (i : Int)).nodes.length) (fun i => (nth n.ways (i : Int)).lens.length) n.ways.length))
  wn : ∀ i : Nat, i < n.ways.length → s.ob (70001, i) = some (.row 1 (intRow (nth n.ways (i : Int)).nodes))
  wl : ∀ i : Nat, i < n.ways.length → s.ob (70002, i) = some (.row 1 (intRow (nth n.ways (i : Int)).lens))
  rels : s.ob (70005, 0) = some (.big 7 (rcells (fun i => ((nth n.rels (i : Int)).id, (nth n.rels (i : Int)).only, (nth n.rels (i : Int)).fr, (nth n.rels (i : Int)).to, (nth n.rels (i : Int)).atNode, (nth n.rels (i : Int)).node)) (fun i => (nth n.rels (i : Int)).via.length) n.rels.length))
  rv : ∀ i : Nat, i < n.rels.length → s.ob (70003, i) = some (.row 1 (intRow (nth n.rels (i : Int)).via))
  tcs : s.ob (70007, 0) = some (.row 3 (recRow encC n.tcs))
def netV (n : Net) : List AV := [.row (70006, 0) 1 0 n.nodes.length, .row (70004, 0) 4 0 n.ways.length, .row (70005, 0) 7 0 n.rels.length, .row (70007, 0) 3 0 n.tcs.length, .t (.v (.int .i64 n.uturn))]
def netIds : List Nat := [70001, 70002, 70003, 70004, 70005, 70006, 70007]
theorem wcells_free {p : Id → Prop} (h1 : ∀ i, ¬ p (70001, i)) (h2 : ∀ i, ¬ p (70002, i)) (f : Nat → Int × Bool) (ns ms : Nat → Nat) (len : Nat) : AV.frees p (wcells f ns ms len).flatten := by
  refine frees_mem fun x hx => ?_
  obtain ⟨e, he, hx⟩ := List.mem_flatten.1 hx
  obtain ⟨i, _, rfl⟩ := List.mem_map.1 he
  simp only [wcell, List.mem_cons, List.mem_nil_iff, or_false] at hx
  rcases hx with rfl | rfl | rfl | rfl <;> unfold AV.free
  · trivial
  · trivial
  · exact h1 i
  · exact h2 i
theorem rcells_free {p : Id → Prop} (h1 : ∀ i, ¬ p (70003, i)) (f : Nat → R6) (ns : Nat → Nat) (len : Nat) : AV.frees p (rcells f ns len).flatten := by
  refine frees_mem fun x hx => ?_
  obtain ⟨e, he, hx⟩ := List.mem_flatten.1 hx
  obtain ⟨i, _, rfl⟩ := List.mem_map.1 he
  simp only [rcell, List.mem_cons, List.mem_nil_iff, or_false] at hx
  rcases hx with rfl | rfl | rfl | rfl | rfl | rfl | rfl <;> unfold AV.free <;> first | trivial | exact h1 i
theorem wcells_ren (d e : Nat) (h1 : ¬ d = 70001) (h2 : ¬ d = 70002) (f : Nat → Int × Bool) (ns ms : Nat → Nat) (len : Nat) : (wcells f ns ms len).map (AV.rensG (renI d e)) = wcells f ns ms len :=
  flatten_map_frees (p := fun id => renI d e id ≠ id) (fun _ he => AV.rensG_same he) (wcells_free (fun i => by have : ¬ 70001 = d := fun h => h1 h.symm; simp [this]) (fun i => by have : ¬ 70002 = d := fun h => h2 h.symm; simp [this]) _ _ _ _)
theorem rcells_ren (d e : Nat) (h1 : ¬ d = 70003) (f : Nat → R6) (ns : Nat → Nat) (len : Nat) : (rcells f ns len).map (AV.rensG (renI d e)) = rcells f ns len :=
  flatten_map_frees (p := fun id => renI d e id ≠ id) (fun _ he => AV.rensG_same he) (rcells_free (fun i => by have : ¬ 70003 = d := fun h => h1 h.symm; simp [this]) _ _ _)
/-- The names of a network's rows. -/
def netId (n : Net) (id : Id) : Prop := id = (70004, 0) ∨ id = (70005, 0) ∨ id = (70006, 0) ∨ id = (70007, 0) ∨ (∃ i : Nat, i < n.ways.length ∧ (id = (70001, i) ∨ id = (70002, i))) ∨ ∃ i : Nat, i < n.rels.length ∧ id = (70003, i)
theorem netOb_free {s : St} {n : Net} (h : NetOb s n) {p : Id → Prop} (h1 : ∀ i, ¬ p (70001, i)) (h2 : ∀ i, ¬ p (70002, i)) (h3 : ∀ i, ¬ p (70003, i)) {id : Id} {o : Ob} (hi : netId n id) (ho : s.ob id = some o) : AV.frees p o.avs := by
  rcases hi with rfl | rfl | rfl | rfl | ⟨i, hi, rfl | rfl⟩ | ⟨i, hi, rfl⟩
  · rw [h.ways] at ho; cases ho; exact wcells_free h1 h2 _ _ _ _
  · rw [h.rels] at ho; cases ho; exact rcells_free h3 _ _ _
  · rw [h.nodes] at ho; cases ho; unfold Ob.avs AV.frees; trivial
  · rw [h.tcs] at ho; cases ho; unfold Ob.avs AV.frees; trivial
  · rw [h.wn i hi] at ho; cases ho; unfold Ob.avs AV.frees; trivial
  · rw [h.wl i hi] at ho; cases ho; unfold Ob.avs AV.frees; trivial
  · rw [h.rv i hi] at ho; cases ho; unfold Ob.avs AV.frees; trivial
/-- The code of laws.markNet. -/
def k11 : Code1 :=
 (.seq
 (.region [2] false ([]) [
 ⟨some 2,Op.box 35 (Operand.tmp 0),none⟩,
 ⟨some 4,Op.assign (Operand.const (Value.int IntKind.i64 0)),none⟩])
 (.seq
 (.region [8] false ([]) [
 ⟨some 5,Op.fieldAddr 35 (Operand.tmp 2) 0,none⟩,
 ⟨some 6,Op.load 22 (Operand.tmp 5),none⟩,
 ⟨some 7,Op.move (Operand.tmp 1),none⟩,
 ⟨some 8,Op.call {callee:=Callee.value (Operand.func 36),args:=#[Operand.tmp 6,Operand.tmp 7],argTypes:=#[22,3]},none⟩,
 ⟨some 1,Op.assign (Operand.tmp 8),none⟩])
 (.seq
 (.region [12] false ([]) [
 ⟨some 9,Op.fieldAddr 35 (Operand.tmp 2) 1,none⟩,
 ⟨some 10,Op.load 31 (Operand.tmp 9),none⟩,
 ⟨some 11,Op.move (Operand.tmp 1),none⟩,
 ⟨some 12,Op.call {callee:=Callee.value (Operand.func 37),args:=#[Operand.tmp 10,Operand.tmp 11],argTypes:=#[31,3]},none⟩,
 ⟨some 1,Op.assign (Operand.tmp 12),none⟩])
 (.seq
 (.region [16] false ([]) [
 ⟨some 13,Op.fieldAddr 35 (Operand.tmp 2) 2,none⟩,
 ⟨some 14,Op.load 32 (Operand.tmp 13),none⟩,
 ⟨some 15,Op.move (Operand.tmp 1),none⟩,
 ⟨some 16,Op.call {callee:=Callee.value (Operand.func 38),args:=#[Operand.tmp 14,Operand.tmp 15],argTypes:=#[32,3]},none⟩,
 ⟨some 1,Op.assign (Operand.tmp 16),none⟩])
 (.seq
 (.region [20] false ([]) [
 ⟨some 17,Op.fieldAddr 35 (Operand.tmp 2) 3,none⟩,
 ⟨some 18,Op.load 33 (Operand.tmp 17),none⟩,
 ⟨some 19,Op.move (Operand.tmp 1),none⟩,
 ⟨some 20,Op.call {callee:=Callee.value (Operand.func 39),args:=#[Operand.tmp 18,Operand.tmp 19],argTypes:=#[33,3]},none⟩,
 ⟨some 1,Op.assign (Operand.tmp 20),none⟩])
 (.seq
 (.region [] false ([]) [
 ⟨some 21,Op.move (Operand.tmp 1),none⟩,
 ⟨some 4,Op.assign (Operand.tmp 21),none⟩])
 .ret))))))
set_option maxHeartbeats 0 in
theorem markN_inl (s : St) (n : Net) (hL : LN n) (hc : s.Calm [79001] (79001 :: netIds)) {R : AV → St → Prop} (k : Int) (h0 : 0 ≤ k) (hk : k ≤ 1000) (ha : accN (fun i => 2 + (nth n.ways (i : Int)).nodes.length + (nth n.ways (i : Int)).lens.length) n.ways.length ≤ 8000000) (hb : accN (fun i => 6 + (nth n.rels (i : Int)).via.length) n.rels.length ≤ 8000000) (ho : NetOb s n)
    (hR : ∀ s' (k' : Int), Keep (79001 :: netIds) s s' → 0 ≤ k' → R (.t (.v (.int .i64 k'))) s') :
    Inl Tryd.prog 11 [.agg (netV n), .t (.v (.int .i64 k))] s R := by
  refine inl_of_wp2 (fn := Tryd.f11) (k := k11) (fun _ => []) mixed (by kernel_rfl) rfl (by kernel_rfl) (by kernel_rfl) rfl (by simp [Tryd.f11]) ?_
  generalize hst : s.body [.agg (netV n), .t (.v (.int .i64 k))] = st0
  have q0 : ∀ F, Keep F s st0 := fun F => by rw [← hst]; exact (Keep.refl F s).body _
  have hob : st0.ob = s.ob := by rw [← hst]; rfl
  have t0 : st0.tm 0 = .agg (netV n) := by rw [← hst]; rfl
  have t1 : st0.tm 1 = .t (.v (.int .i64 k)) := by rw [← hst]; rfl
  clear hst
  unfold k11
  obtain ⟨p6, p4, p1, p2, p5, p3, p7⟩ := ho
  rw [← hob] at p6 p4 p5 p7
  obtain ⟨l6, l4, l5, l7, ln, ll, lv⟩ := hL
  repeat' (first
   | refine wp2_seq fun K hK => ?_
   | refine M_cons fun K hK => ?_
   | (refine hK _ ?_; clear hK K)
   | refine wp2_inl (mk := [12]) 3 rfl ?_
   | refine wp2_region ?_
   | (refine callT_mrow (markI _ _ ?_ ?_ ?_) (by simp [t0, t1, p6, p4, p5, p7, netV]; rfl) (by first | (simp; done) | omega) rfl (by simp [RV.flat, T.flat]) (by (repeat' first | exact flat_intRow _ | exact flat_boolRow _ | exact flat_recE _ | exact trivial | constructor | unfold Arg.flats | unfold Arg.flat); first | done | fail) ?_; omega; omega; omega)
   | simp (maxSteps := 4000000) (disch := omega) [t0, t1, p6, p4, p5, p7, netV])
  all_goals first | omega | skip
  generalize hst : St.put _ (some 11) _ = st1
  have q1 : Keep (79001 :: netIds) s (renL st1 [(2, 79001)]) := by
    rw [← hst]
    simp only [renL_cons, renL_nil]
    (repeat' first | exact q0 | exact q0 _ | refine Keep.put ?_ _ _ | refine Keep.setOb ?_ (by first | rfl | simp) _ | refine Keep.kill hc ?_ (by first | rfl | simp) | refine Keep.ren hc ?_ (by first | rfl | simp) | refine Keep.ren1 hc ?_ (by first | rfl | simp) | refine Keep.kill1 hc ?_ (by first | rfl | simp))
  have n1 : NetOb (renL st1 [(2, 79001)]) { n with nodes := marked k n.nodes.length } := by
    rw [← hst]
    refine ⟨by simp, by simp [p4, wcells_ren], fun i hi => ?_, fun i hi => ?_, by simp [p5, rcells_ren], fun i hi => ?_, by simp [p7]⟩
    · simp [hob, p1 i hi]
    · simp [hob, p2 i hi]
    · simp [hob, p3 i hi]
  have u2 : (renL st1 [(2, 79001)]).tm 2 = .ptr (79001, 0) 0 0 := by
    rw [← hst]
    simp
  have u10 : (renL st1 [(2, 79001)]).tm 10 = .row (70004, 0) 4 0 n.ways.length := by
    rw [← hst]
    simp
  have u11 : (renL st1 [(2, 79001)]).tm 11 = .t (.v (.int .i64 (k + n.nodes.length))) := by
    rw [← hst]
    simp
  have v2 : (renL st1 [(2, 79001)]).ob (79001, 0) = some (.var (netV n)) := by
    rw [← hst]
    simp [netV]
  refine callI_named [(2, 79001)] [2, 10, 11] (fun id => calm (79001 :: netIds) id ∨ (netId n id ∨ id = (79001, 0))) (by decide) ⟨Tryd.f37, by kernel_rfl, by kernel_rfl, rfl⟩ [.row (70004, 0) 4 0 n.ways.length, .t (.v (.int .i64 (k + n.nodes.length)))] (by simp [-renL_cons, u10, u11]) ?_
  clear p6 p4 p5 p7 p1 p2 p3 hst t0 t1 hob q0
  generalize renL st1 [(2, 79001)] = st2 at *
  refine markWs_inl _ (push_frame hc q1 rfl (by simp [u2, u10, u11, AV.free, calm]) ?_) _ (fun i => (nth n.ways (i : Int)).nodes.length) (fun i => (nth n.ways (i : Int)).lens.length) n.ways.length _ (by omega) (by omega) l4 ln ll (by rw [push_ob, only_ob (.inr (.inl (.inl rfl)))]; exact n1.ways)
    (fun i hi => ⟨_, rfl, by rw [push_ob, only_ob (.inr (.inl (.inr (.inr (.inr (.inr (.inl ⟨i, hi, .inl rfl⟩)))))))]; exact n1.wn i hi⟩) (fun i hi => ⟨_, rfl, by rw [push_ob, only_ob (.inr (.inl (.inr (.inr (.inr (.inr (.inl ⟨i, hi, .inr rfl⟩)))))))]; exact n1.wl i hi⟩) ?_
  · rintro id o (hid | rfl) ho
    · exact netOb_free n1 (by simp [calm]) (by simp [calm]) (by simp [calm]) hid ho
    · rw [v2] at ho
      cases ho
      simp [Ob.avs, netV, AV.frees, AV.free, calm]
  intro s' hk'
  obtain ⟨kp, ktm⟩ := hk'.pop
  generalize s'.pop0 = s3 at *
  have q3 := keep_back q1 kp rfl
  have w2 : s3.tm 2 = .ptr (79001, 0) 0 0 := by rw [ktm]; simp [u2]
  have x9 : s3.ob (79001, 0) = some (.var (netV n)) := by rw [back_ob kp (.inr rfl) (by simp [calm])]; exact v2
  have x5 := (back_ob kp (id := (70005, 0)) (.inl (.inr (.inl rfl))) (by simp [calm])).trans n1.rels
  have x3 := fun (i : Nat) (hi : i < n.rels.length) => (back_ob kp (id := (70003, i)) (.inl (.inr (.inr (.inr (.inr (.inr ⟨i, hi, rfl⟩)))))) (by simp [calm])).trans (n1.rv i hi)
  have x7 := (back_ob kp (id := (70007, 0)) (.inl (.inr (.inr (.inr (.inl rfl))))) (by simp [calm])).trans n1.tcs
  dsimp only at x5 x3 x7
  clear n1 q1 hk' kp ktm u2 u10 u11 v2
  repeat' (first
   | refine wp2_seq fun K hK => ?_
   | refine M_cons fun K hK => ?_
   | (refine hK _ ?_; clear hK K)
   | refine wp2_inl (mk := [16]) 3 rfl ?_
   | simp (maxSteps := 4000000) (disch := omega) [w2, x9, netV, x5, mk1, makes])
  generalize hst : St.put _ (some 15) _ = st4
  generalize hA : k + (n.nodes.length : Int) + (accN (fun i => 2 + (nth n.ways (i : Int)).nodes.length + (nth n.ways (i : Int)).lens.length) n.ways.length : Int) = A at *
  have q4 : Keep (79001 :: netIds) s st4 := by
    rw [← hst]
    (repeat' first | exact q3 | exact q3 _ | refine Keep.put ?_ _ _ | refine Keep.setOb ?_ (by first | rfl | simp) _ | refine Keep.kill hc ?_ (by first | rfl | simp) | refine Keep.ren hc ?_ (by first | rfl | simp) | refine Keep.ren1 hc ?_ (by first | rfl | simp) | refine Keep.kill1 hc ?_ (by first | rfl | simp))
  have y2 : st4.tm 2 = .ptr (79001, 0) 0 0 := by
    rw [← hst]
    simp [w2]
  have y14 : st4.tm 14 = .row (70005, 0) 7 0 n.rels.length := by
    rw [← hst]
    simp
  have y15 : st4.tm 15 = .t (.v (.int .i64 A)) := by
    rw [← hst]
    simp
  have y9 : st4.ob (79001, 0) = some (.var (netV n)) := by
    rw [← hst]
    simp [x9, netV]
  have y5 : st4.ob (70005, 0) = s3.ob (70005, 0) := by
    rw [← hst]
    simp [x5]
  rw [x5] at y5
  have y3 : ∀ i : Nat, i < n.rels.length → st4.ob (70003, i) = some (.row 1 (intRow (nth n.rels (i : Int)).via)) := fun i hi => by
    rw [← hst]
    simp [x3 i hi]
  have y7 : st4.ob (70007, 0) = some (.row 3 (recRow encC n.tcs)) := by
    rw [← hst]
    simp [x7]
  refine callI_named [] [2, 14, 15] (fun id => calm (79001 :: netIds) id ∨ ((id = (70005, 0) ∨ id = (70007, 0) ∨ ∃ i : Nat, i < n.rels.length ∧ id = (70003, i)) ∨ id = (79001, 0))) (by decide) ⟨Tryd.f38, by kernel_rfl, by kernel_rfl, rfl⟩ [.row (70005, 0) 7 0 n.rels.length, .t (.v (.int .i64 A))] (by simp [y14, y15]) ?_
  rw [renL_nil]
  clear hst w2 x9 x5 x3 x7 q3
  refine markRs_inl _ (push_frame hc q4 rfl (by simp [y2, y14, y15, AV.free, calm]) ?_) _ (fun i => (nth n.rels (i : Int)).via.length) n.rels.length _ (by omega) (by omega) l5 lv (by rw [push_ob, only_ob (.inr (.inl (.inl rfl)))]; exact y5)
    (fun i hi => ⟨_, rfl, by rw [push_ob, only_ob (.inr (.inl (.inr (.inr ⟨i, hi, rfl⟩))))]; exact y3 i hi⟩) ?_
  · rintro id o ((rfl | rfl | ⟨i, hi, rfl⟩) | rfl) ho
    · rw [y5] at ho
      cases ho
      exact rcells_free (by simp [calm]) _ _ _
    · rw [y7] at ho
      cases ho
      unfold Ob.avs AV.frees; trivial
    · rw [y3 i hi] at ho
      cases ho
      unfold Ob.avs AV.frees; trivial
    · rw [y9] at ho
      cases ho
      simp [Ob.avs, netV, AV.frees, AV.free, calm]
  intro s' hk'
  obtain ⟨kp, ktm⟩ := hk'.pop
  generalize s'.pop0 = s5 at *
  have q5 := keep_back q4 kp rfl
  have w2 : s5.tm 2 = .ptr (79001, 0) 0 0 := by rw [ktm]; simp [y2]
  have x9 : s5.ob (79001, 0) = some (.var (netV n)) := by rw [back_ob kp (.inr rfl) (by simp [calm])]; exact y9
  have x7 := (back_ob kp (id := (70007, 0)) (.inl (.inr (.inl rfl))) (by simp [calm])).trans y7
  clear q4 hk' kp ktm y2 y14 y15 y9 y5 y3 y7
  repeat' (first
   | refine wp2_seq fun K hK => ?_
   | refine M_cons fun K hK => ?_
   | (refine hK _ ?_; clear hK K)
   | refine wp2_region ?_
   | (refine callT_gen false (markCs n.tcs _ ?_ ?_) (by simp) (by simp [St.args, St.arg, w2, x9, netV, x7, mk1, makes] <;> first | rfl | ((repeat' first | rfl | apply And.intro); first | done | fail)) (by simp [apartArgs, mutsOf, noRow]) (by simp [callFrz, valsOf, outEff]) ?_)
   | simp (maxSteps := 4000000) (disch := omega) [w2, x9, netV, x7, mk1, makes])
  all_goals first | omega | skip
  refine ⟨_, by simp [resultA, resA]; rfl, hR _ _ ?_ (by omega)⟩
  refine Keep.bare ?_
  (repeat' first | exact q5 | exact q5 _ | refine Keep.put ?_ _ _ | refine Keep.setOb ?_ (by first | rfl | simp) _ | refine Keep.kill hc ?_ (by first | rfl | simp) | refine Keep.ren hc ?_ (by first | rfl | simp) | refine Keep.ren1 hc ?_ (by first | rfl | simp) | refine Keep.kill1 hc ?_ (by first | rfl | simp))
end Cal

set_option linter.unusedSimpArgs false
set_option linter.unusedVariables false
namespace Cal
open Go Go.Proofs
set_option maxRecDepth 100000
def zWA : List AV := [.t (.v (.int .i64 0)), .t (.v (.bool false)), .t (.v (.slice none 0 0)), .t (.v (.slice none 0 0))]
def wcl (l : List Way) (i : Nat) : List AV := wcell i ((nth l (i : Int)).id, (nth l (i : Int)).two) (nth l (i : Int)).nodes.length (nth l (i : Int)).lens.length
/-- The rows of ways, so many of them made. -/
def wU (l : List Way) (k : Nat) : List (List AV) := (List.range l.length).map fun i => if i < k then wcl l i else zWA
@[simp] theorem wU_length (l : List Way) (k : Nat) : (wU l k).length = l.length := by simp [wU]
@[simp] theorem wU_get (l : List Way) (k : Nat) (h : k < l.length) : (wU l k)[k]? = some zWA := by simp [wU, h]
theorem wU_set (l : List Way) (k : Nat) : (wU l k).set k (wcl l k) = wU l (k + 1) := by
  apply List.ext_getElem?
  intro j
  rw [List.getElem?_set]
  by_cases hj : k = j
  · subst hj
    by_cases hl : k < l.length
    · simp [wU, hl]
    · simp [wU, hl]
  · by_cases hl : j < l.length
    · have : (j < k + 1) = (j < k) := by apply propext; omega
      simp [wU, hj, hl, this]
    · simp [wU, hj, hl]
theorem wU_all (l : List Way) : wU l l.length = wcells (fun i => ((nth l (i : Int)).id, (nth l (i : Int)).two)) (fun i => (nth l (i : Int)).nodes.length) (fun i => (nth l (i : Int)).lens.length) l.length := by
  unfold wU wcells
  exact List.map_congr_left fun i hi => by rw [if_pos (List.mem_range.1 hi)]; rfl
theorem wU_0 (l : List Way) : (filled (recRow encW l) 0 zW).map (fun e => e.map AV.t) = wU l 0 := by
  rw [filled_0, recRow_length, List.map_replicate]
  apply List.ext_getElem?
  intro j
  by_cases h : j < l.length
  · simp [wU, h, zW, zWA]
  · simp [wU, h]
theorem wU_free {p : Id → Prop} {l : List Way} {k : Nat} (h1 : ∀ i < k, ¬ p (70001, i)) (h2 : ∀ i < k, ¬ p (70002, i)) : AV.frees p (wU l k).flatten := by
  refine frees_mem fun x hx => ?_
  obtain ⟨e, he, hx⟩ := List.mem_flatten.1 hx
  obtain ⟨i, _, rfl⟩ := List.mem_map.1 he
  split at hx
  · rename_i hi
    simp only [wcl, wcell, List.mem_cons, List.mem_nil_iff, or_false] at hx
    rcases hx with rfl | rfl | rfl | rfl <;> unfold AV.free
    · trivial
    · trivial
    · exact h1 i hi
    · exact h2 i hi
  · simp only [zWA, List.mem_cons, List.mem_nil_iff, or_false] at hx
    rcases hx with rfl | rfl | rfl | rfl <;> unfold AV.free <;> trivial
@[simp] theorem zWA_kills (ds : List Nat) : AV.kills ds zWA = zWA := by simp [zWA]
@[simp] theorem zWA_length : zWA.length = 4 := rfl
@[simp] theorem zWA_over (a b c d : AV) : over zWA 0 [a, b, c, d] = [a, b, c, d] := rfl
@[simp] theorem zWA_over' (a b c d : AV) : a :: b :: c :: d :: List.drop 4 zWA = [a, b, c, d] := rfl
@[simp] theorem wU_kills (l : List Way) (k : Nat) (ds : List Nat) : (wU l k).map (AV.kills ds) = if (ds.contains 70001 || ds.contains 70002) = true then (wU l k).map (fun e => AV.kills ds e) else wU l k := by
  split
  · rfl
  · rename_i h
    have h' : 70001 ∉ ds ∧ 70002 ∉ ds := by simpa using h
    exact flatten_map_frees (p := fun id => id.1 ∈ ds) (fun _ he => AV.kills_same he) (wU_free (fun i _ => h'.1) (fun i _ => h'.2))
@[simp] theorem wU_kills1a (l : List Way) (k : Nat) : (wU l k).map (AV.kills1 (70001, k)) = wU l k :=
  flatten_map_frees (p := fun id => id = (70001, k)) (fun _ he => AV.kills1_same he) (wU_free (fun i hi e => by simp at e; omega) (fun i _ e => by simp at e))
@[simp] theorem wU_kills1b (l : List Way) (k : Nat) : (wU l k).map (AV.kills1 (70002, k)) = wU l k :=
  flatten_map_frees (p := fun id => id = (70002, k)) (fun _ he => AV.kills1_same he) (wU_free (fun i _ e => by simp at e) (fun i hi e => by simp at e; omega))
theorem ren1_out {p q id : Id} (h : ¬ id = p) : ren1 p q id = id := by unfold ren1; rw [if_neg h]
@[simp] theorem wU_ren1a (l : List Way) (k b : Nat) (q : Id) : (wU l k).map (AV.rensG (ren1 (20, b) q)) = wU l k :=
  flatten_map_frees (p := fun id => ren1 (20, b) q id ≠ id) (fun _ he => AV.rensG_same he) (wU_free (fun i _ e => e (ren1_out (by simp))) (fun i _ e => e (ren1_out (by simp))))
@[simp] theorem wU_ren (l : List Way) (k e : Nat) : (wU l k).map (AV.rensG (renI 7 e)) = wU l k :=
  flatten_map_frees (p := fun id => renI 7 e id ≠ id) (fun _ he => AV.rensG_same he) (wU_free (fun i _ e => e (by simp)) (fun i _ e => e (by simp)))
set_option maxHeartbeats 0 in
theorem toWs_inl (s : St) (hc : s.Calm [70001, 70002, 70004] [70001, 70002, 70004]) {R : AV → St → Prop} (l : List Way) (hl : l.length ≤ 1048576) (h1 : ∀ i : Nat, i < l.length → (nth l i).nodes.length ≤ 1048576) (h2 : ∀ i : Nat, i < l.length → (nth l i).lens.length ≤ 1048576)
    (hR : ∀ s', Keep [70001, 70002, 70004] s s' → s'.ob (70004, 0) = some (.big 4 (wU l l.length)) → (∀ i : Nat, i < l.length → s'.ob (70001, i) = some (.row 1 (intRow (nth l (i : Int)).nodes))) → (∀ i : Nat, i < l.length → s'.ob (70002, i) = some (.row 1 (intRow (nth l (i : Int)).lens))) → R (.row (70004, 0) 4 0 l.length) s') :
    Inl Tryd.prog 28 [.t (recs encW l)] s R := by
  refine inl_of_wp2 (fn := Tryd.f28) (k := k28) (fun _ => []) mixed (by kernel_rfl) rfl (by kernel_rfl) (by kernel_rfl) rfl (by simp [Tryd.f28]) ?_
  generalize hst : s.body [.t (recs encW l)] = st0
  have q0 : ∀ F, Keep F s st0 := fun F => by rw [← hst]; exact (Keep.refl F s).body _
  have hob : st0.ob = s.ob := by rw [← hst]; rfl
  have t0 : st0.tm 0 = .t (recs encW l) := by rw [← hst]; rfl
  clear hst
  unfold k28
  repeat' (first
   | refine wp2_seq fun K hK => ?_
   | refine M_cons fun K hK => ?_
   | (refine hK _ ?_; clear hK K)
   | refine wp2_block ?_
   | (refine wp2_big (ops := ⟨some 4, _, _⟩ :: _) (7, 0) (by simp [t0, wU_0] <;> first | rfl | exact ⟨rfl, rfl⟩) ?_)
   | refine wp2_canon (ops := ⟨some 4, _, _⟩ :: _) [(3, 70004)] ?_
   | refine wp2_region ?_
   | simp (maxSteps := 4000000) (disch := omega) [t0, wU_0])
  have hJ : ∀ s1, Keep [70001, 70002, 70004] s s1 → s1.tm 3 = .row (70004, 0) 4 0 l.length → s1.ob (70004, 0) = some (.big 4 (wU l l.length)) → (∀ i : Nat, i < l.length → s1.ob (70001, i) = some (.row 1 (intRow (nth l (i : Int)).nodes))) → (∀ i : Nat, i < l.length → s1.ob (70002, i) = some (.row 1 (intRow (nth l (i : Int)).lens))) → K s1 := by
    intro s1 q1 s13 o1 n1 m1
    repeat' (first
     | refine wp2_seq fun K hK => ?_
     | refine M_cons fun K hK => ?_
     | (refine hK _ ?_; clear hK K)
     | refine wp2_region ?_
     | simp (maxSteps := 4000000) (disch := omega) [s13])
    refine ⟨_, by simp [resultA, resA, s13], hR _ ?_ ?_ ?_ ?_⟩
    · refine Keep.bare ?_
      (repeat' first | exact q1 | exact q1 _ | refine Keep.put ?_ _ _ | refine Keep.setOb ?_ (by first | rfl | simp) _ | refine Keep.kill hc ?_ (by first | rfl | simp) | refine Keep.ren hc ?_ (by first | rfl | simp) | refine Keep.ren1 hc ?_ (by first | rfl | simp) | refine Keep.kill1 hc ?_ (by first | rfl | simp))
    · simp [o1]
    · intro i hi
      simp [n1 i hi]
    · intro i hi
      simp [m1 i hi]
  clear hK
  refine wp2_loop (fun n s1 => ∃ k : Nat, Keep [70001, 70002, 70004] s s1 ∧ s1.tm 0 = .t (recs encW l) ∧ s1.tm 3 = .row (70004, 0) 4 0 l.length ∧ s1.tm 4 = .t (.v (.int .i64 k)) ∧ s1.ob (70004, 0) = some (.big 4 (wU l k)) ∧ (∀ i : Nat, i < k → s1.ob (70001, i) = some (.row 1 (intRow (nth l (i : Int)).nodes))) ∧ (∀ i : Nat, i < k → s1.ob (70002, i) = some (.row 1 (intRow (nth l (i : Int)).lens))) ∧ k ≤ l.length ∧ n = l.length - k) l.length ?_ ?_
  · refine ⟨0, ?_, ?_⟩
    · (repeat' first | exact q0 | exact q0 _ | refine Keep.put ?_ _ _ | refine Keep.setOb ?_ (by first | rfl | simp) _ | refine Keep.kill hc ?_ (by first | rfl | simp) | refine Keep.ren hc ?_ (by first | rfl | simp) | refine Keep.ren1 hc ?_ (by first | rfl | simp) | refine Keep.kill1 hc ?_ (by first | rfl | simp))
    · simp [t0, wU_0]
  · rintro n s1 ⟨k, q1, s10, s13, s14, o1, n1, m1, hk, rfl⟩ K' hN
    have g1 := h1 k
    have g2 := h2 k
    by_cases hlt : k < l.length
    · repeat' (first
     | refine wp2_seq fun K hK => ?_
     | refine M_cons fun K hK => ?_
     | (refine hK _ ?_; clear hK K)
     | (refine hX _ ?_; clear hX hY X Y)
     | (refine hY _ ?_; clear hX hY X Y)
     | refine wp2_block ?_
     | (refine wp2_ren1' (ops := ⟨some 12, _, _⟩ :: _) (20, 0) (70001, k) (by rfl) (by simp [s10, s13, s14, o1, encW, rvW] <;> first | rfl | exact ⟨rfl, rfl⟩) ?_)
     | (refine wp2_ren1' (ops := ⟨some 12, _, _⟩ :: _) (20, 1) (70002, k) (by rfl) (by simp [s10, s13, s14, o1, encW, rvW] <;> first | rfl | exact ⟨rfl, rfl⟩) ?_)
     | refine wp2_region ?_
     | refine wp2_cond fun X Y hX hY => ?_
     | (refine condK_of (fun c => ?_) (fun c => ?_) <;> (try simp [-List.length_eq_zero_iff] at c))
     | (refine callT_fl (toW _ ?_ ?_) (by simp [St.args, St.arg, s10, s13, s14, o1, encW, rvW] <;> first | rfl | ((repeat' first | rfl | apply And.intro); first | done | fail)) ?_; omega; omega)
     | simp (maxSteps := 4000000) (disch := omega) [s10, s13, s14, o1, encW, rvW])
      all_goals first
        | omega
        | (refine hN (l.length - (k + 1)) _ (by omega) ⟨k + 1, ?_, ?_⟩)
      · (repeat' first | exact q1 | exact q1 _ | refine Keep.put ?_ _ _ | refine Keep.setOb ?_ (by first | rfl | simp) _ | refine Keep.kill hc ?_ (by first | rfl | simp) | refine Keep.ren hc ?_ (by first | rfl | simp) | refine Keep.ren1 hc ?_ (by first | rfl | simp) | refine Keep.kill1 hc ?_ (by first | rfl | simp))
      · have hset := wU_set l k
        simp only [wcl, wcell] at hset
        refine ⟨by simp [s10], by simp [s13], by simp, by simp [o1, hset], fun i hi => ?_, fun i hi => ?_, by omega, by omega⟩
        · by_cases e : i = k
          · subst e
            simp
          · simp [e, n1 i (by omega)]
        · by_cases e : i = k
          · subst e
            simp
          · simp [e, m1 i (by omega)]
    · have hkl : k = l.length := by omega
      subst hkl
      repeat' (first
       | refine wp2_seq fun K hK => ?_
       | refine M_cons fun K hK => ?_
       | (refine hK _ ?_; clear hK K)
       | (refine hY _ ?_; clear hX hY X Y)
       | refine wp2_region ?_
       | refine wp2_cond fun X Y hX hY => ?_
       | (refine condK_of (fun c => ?_) (fun c => ?_) <;> (try simp [-List.length_eq_zero_iff] at c))
       | simp (maxSteps := 4000000) (disch := omega) [s10, s13, s14, o1])
      all_goals first | omega | skip
      refine hJ _ ?_ (by simp [s13]) (by simp [o1]) (fun i hi => by simp [n1 i hi]) (fun i hi => by simp [m1 i hi])
      (repeat' first | exact q1 | exact q1 _ | refine Keep.put ?_ _ _ | refine Keep.setOb ?_ (by first | rfl | simp) _ | refine Keep.kill hc ?_ (by first | rfl | simp) | refine Keep.ren hc ?_ (by first | rfl | simp) | refine Keep.ren1 hc ?_ (by first | rfl | simp) | refine Keep.kill1 hc ?_ (by first | rfl | simp))
end Cal

set_option linter.unusedSimpArgs false
set_option linter.unusedVariables false
namespace Cal
open Go Go.Proofs
set_option maxRecDepth 100000
def zRA : List AV := [.t (.v (.int .i64 0)), .t (.v (.bool false)), .t (.v (.int .i64 0)), .t (.v (.int .i64 0)), .t (.v (.bool false)), .t (.v (.int .i64 0)), .t (.v (.slice none 0 0))]
def rcl (l : List Rln) (i : Nat) : List AV := rcell i ((nth l (i : Int)).id, (nth l (i : Int)).only, (nth l (i : Int)).fr, (nth l (i : Int)).to, (nth l (i : Int)).atNode, (nth l (i : Int)).node) (nth l (i : Int)).via.length
/-- The rows of relations, so many of them made. -/
def rU (l : List Rln) (k : Nat) : List (List AV) := (List.range l.length).map fun i => if i < k then rcl l i else zRA
@[simp] theorem rU_length (l : List Rln) (k : Nat) : (rU l k).length = l.length := by simp [rU]
@[simp] theorem rU_get (l : List Rln) (k : Nat) (h : k < l.length) : (rU l k)[k]? = some zRA := by simp [rU, h]
theorem rU_set (l : List Rln) (k : Nat) : (rU l k).set k (rcl l k) = rU l (k + 1) := by
  apply List.ext_getElem?
  intro j
  rw [List.getElem?_set]
  by_cases hj : k = j
  · subst hj
    by_cases hl : k < l.length
    · simp [rU, hl]
    · simp [rU, hl]
  · by_cases hl : j < l.length
    · have : (j < k + 1) = (j < k) := by apply propext; omega
      simp [rU, hj, hl, this]
    · simp [rU, hj, hl]
theorem rU_all (l : List Rln) : rU l l.length = rcells (fun i => ((nth l (i : Int)).id, (nth l (i : Int)).only, (nth l (i : Int)).fr, (nth l (i : Int)).to, (nth l (i : Int)).atNode, (nth l (i : Int)).node)) (fun i => (nth l (i : Int)).via.length) l.length := by
  unfold rU rcells
  exact List.map_congr_left fun i hi => by rw [if_pos (List.mem_range.1 hi)]; rfl
theorem rU_0 (l : List Rln) : (filled (recRow encR l) 0 zR).map (fun e => e.map AV.t) = rU l 0 := by
  rw [filled_0, recRow_length, List.map_replicate]
  apply List.ext_getElem?
  intro j
  by_cases h : j < l.length
  · simp [rU, h, zR, zRA]
  · simp [rU, h]
theorem rU_free {p : Id → Prop} {l : List Rln} {k : Nat} (h1 : ∀ i < k, ¬ p (70003, i)) : AV.frees p (rU l k).flatten := by
  refine frees_mem fun x hx => ?_
  obtain ⟨e, he, hx⟩ := List.mem_flatten.1 hx
  obtain ⟨i, _, rfl⟩ := List.mem_map.1 he
  split at hx
  · rename_i hi
    simp only [rcl, rcell, List.mem_cons, List.mem_nil_iff, or_false] at hx
    rcases hx with rfl | rfl | rfl | rfl | rfl | rfl | rfl <;> unfold AV.free <;> first | trivial | exact h1 i hi
  · simp only [zRA, List.mem_cons, List.mem_nil_iff, or_false] at hx
    rcases hx with rfl | rfl | rfl | rfl | rfl | rfl | rfl <;> unfold AV.free <;> trivial
@[simp] theorem zRA_kills (ds : List Nat) : AV.kills ds zRA = zRA := by simp [zRA]
@[simp] theorem zRA_length : zRA.length = 7 := rfl
@[simp] theorem zRA_over (a b c d e f g : AV) : over zRA 0 [a, b, c, d, e, f, g] = [a, b, c, d, e, f, g] := rfl
@[simp] theorem zRA_over' (a b c d e f g : AV) : a :: b :: c :: d :: e :: f :: g :: List.drop 7 zRA = [a, b, c, d, e, f, g] := rfl
@[simp] theorem rU_kills (l : List Rln) (k : Nat) (ds : List Nat) : (rU l k).map (AV.kills ds) = if (ds.contains 70003) = true then (rU l k).map (fun e => AV.kills ds e) else rU l k := by
  split
  · rfl
  · rename_i h
    have h' : 70003 ∉ ds := by simpa using h
    exact flatten_map_frees (p := fun id => id.1 ∈ ds) (fun _ he => AV.kills_same he) (rU_free (fun i _ => h'))
@[simp] theorem rU_kills1a (l : List Rln) (k : Nat) : (rU l k).map (AV.kills1 (70003, k)) = rU l k :=
  flatten_map_frees (p := fun id => id = (70003, k)) (fun _ he => AV.kills1_same he) (rU_free (fun i hi e => by simp at e; omega))
@[simp] theorem rU_ren1a (l : List Rln) (k b : Nat) (q : Id) : (rU l k).map (AV.rensG (ren1 (20, b) q)) = rU l k :=
  flatten_map_frees (p := fun id => ren1 (20, b) q id ≠ id) (fun _ he => AV.rensG_same he) (rU_free (fun i _ e => e (ren1_out (by simp))))
@[simp] theorem rU_ren (l : List Rln) (k e : Nat) : (rU l k).map (AV.rensG (renI 7 e)) = rU l k :=
  flatten_map_frees (p := fun id => renI 7 e id ≠ id) (fun _ he => AV.rensG_same he) (rU_free (fun i _ e => e (by simp)))
set_option maxHeartbeats 0 in
theorem toRs_inl (s : St) (hc : s.Calm [70003, 70005] [70003, 70005]) {R : AV → St → Prop} (l : List Rln) (hl : l.length ≤ 1048576) (h1 : ∀ i : Nat, i < l.length → (nth l i).via.length ≤ 1048576)
    (hR : ∀ s', Keep [70003, 70005] s s' → s'.ob (70005, 0) = some (.big 7 (rU l l.length)) → (∀ i : Nat, i < l.length → s'.ob (70003, i) = some (.row 1 (intRow (nth l (i : Int)).via))) → R (.row (70005, 0) 7 0 l.length) s') :
    Inl Tryd.prog 29 [.t (recs encR l)] s R := by
  refine inl_of_wp2 (fn := Tryd.f29) (k := k29) (fun _ => []) mixed (by kernel_rfl) rfl (by kernel_rfl) (by kernel_rfl) rfl (by simp [Tryd.f29]) ?_
  generalize hst : s.body [.t (recs encR l)] = st0
  have q0 : ∀ F, Keep F s st0 := fun F => by rw [← hst]; exact (Keep.refl F s).body _
  have hob : st0.ob = s.ob := by rw [← hst]; rfl
  have t0 : st0.tm 0 = .t (recs encR l) := by rw [← hst]; rfl
  clear hst
  unfold k29
  repeat' (first
   | refine wp2_seq fun K hK => ?_
   | refine M_cons fun K hK => ?_
   | (refine hK _ ?_; clear hK K)
   | refine wp2_block ?_
   | (refine wp2_big (ops := ⟨some 4, _, _⟩ :: _) (7, 0) (by simp [t0, rU_0] <;> first | rfl | exact ⟨rfl, rfl⟩) ?_)
   | refine wp2_canon (ops := ⟨some 4, _, _⟩ :: _) [(3, 70005)] ?_
   | refine wp2_region ?_
   | simp (maxSteps := 4000000) (disch := omega) [t0, rU_0])
  have hJ : ∀ s1, Keep [70003, 70005] s s1 → s1.tm 3 = .row (70005, 0) 7 0 l.length → s1.ob (70005, 0) = some (.big 7 (rU l l.length)) → (∀ i : Nat, i < l.length → s1.ob (70003, i) = some (.row 1 (intRow (nth l (i : Int)).via))) → K s1 := by
    intro s1 q1 s13 o1 n1
    repeat' (first
     | refine wp2_seq fun K hK => ?_
     | refine M_cons fun K hK => ?_
     | (refine hK _ ?_; clear hK K)
     | refine wp2_region ?_
     | simp (maxSteps := 4000000) (disch := omega) [s13])
    refine ⟨_, by simp [resultA, resA, s13], hR _ ?_ ?_ ?_⟩
    · refine Keep.bare ?_
      (repeat' first | exact q1 | exact q1 _ | refine Keep.put ?_ _ _ | refine Keep.setOb ?_ (by first | rfl | simp) _ | refine Keep.kill hc ?_ (by first | rfl | simp) | refine Keep.ren hc ?_ (by first | rfl | simp) | refine Keep.ren1 hc ?_ (by first | rfl | simp) | refine Keep.kill1 hc ?_ (by first | rfl | simp))
    · simp [o1]
    · intro i hi
      simp [n1 i hi]
  clear hK
  refine wp2_loop (fun n s1 => ∃ k : Nat, Keep [70003, 70005] s s1 ∧ s1.tm 0 = .t (recs encR l) ∧ s1.tm 3 = .row (70005, 0) 7 0 l.length ∧ s1.tm 4 = .t (.v (.int .i64 k)) ∧ s1.ob (70005, 0) = some (.big 7 (rU l k)) ∧ (∀ i : Nat, i < k → s1.ob (70003, i) = some (.row 1 (intRow (nth l (i : Int)).via))) ∧ k ≤ l.length ∧ n = l.length - k) l.length ?_ ?_
  · refine ⟨0, ?_, ?_⟩
    · (repeat' first | exact q0 | exact q0 _ | refine Keep.put ?_ _ _ | refine Keep.setOb ?_ (by first | rfl | simp) _ | refine Keep.kill hc ?_ (by first | rfl | simp) | refine Keep.ren hc ?_ (by first | rfl | simp) | refine Keep.ren1 hc ?_ (by first | rfl | simp) | refine Keep.kill1 hc ?_ (by first | rfl | simp))
    · simp [t0, rU_0]
  · rintro n s1 ⟨k, q1, s10, s13, s14, o1, n1, hk, rfl⟩ K' hN
    have g1 := h1 k
    by_cases hlt : k < l.length
    · repeat' (first
     | refine wp2_seq fun K hK => ?_
     | refine M_cons fun K hK => ?_
     | (refine hK _ ?_; clear hK K)
     | (refine hX _ ?_; clear hX hY X Y)
     | (refine hY _ ?_; clear hX hY X Y)
     | refine wp2_block ?_
     | (refine wp2_ren1' (ops := ⟨some 12, _, _⟩ :: _) (20, 0) (70003, k) (by rfl) (by simp [s10, s13, s14, o1, encR, rvR] <;> first | rfl | exact ⟨rfl, rfl⟩) ?_)
     | refine wp2_region ?_
     | refine wp2_cond fun X Y hX hY => ?_
     | (refine condK_of (fun c => ?_) (fun c => ?_) <;> (try simp [-List.length_eq_zero_iff] at c))
     | (refine callT_fl (toR _ ?_) (by simp [St.args, St.arg, s10, s13, s14, o1, encR, rvR] <;> first | rfl | ((repeat' first | rfl | apply And.intro); first | done | fail)) ?_; omega)
     | simp (maxSteps := 4000000) (disch := omega) [s10, s13, s14, o1, encR, rvR])
      all_goals first
        | omega
        | (refine hN (l.length - (k + 1)) _ (by omega) ⟨k + 1, ?_, ?_⟩)
      · (repeat' first | exact q1 | exact q1 _ | refine Keep.put ?_ _ _ | refine Keep.setOb ?_ (by first | rfl | simp) _ | refine Keep.kill hc ?_ (by first | rfl | simp) | refine Keep.ren hc ?_ (by first | rfl | simp) | refine Keep.ren1 hc ?_ (by first | rfl | simp) | refine Keep.kill1 hc ?_ (by first | rfl | simp))
      · have hset := rU_set l k
        simp only [rcl, rcell] at hset
        refine ⟨by simp [s10], by simp [s13], by simp, by simp [o1, hset], fun i hi => ?_, by omega, by omega⟩
        by_cases e : i = k
        · subst e
          simp
        · simp [e, n1 i (by omega)]
    · have hkl : k = l.length := by omega
      subst hkl
      repeat' (first
       | refine wp2_seq fun K hK => ?_
       | refine M_cons fun K hK => ?_
       | (refine hK _ ?_; clear hK K)
       | (refine hY _ ?_; clear hX hY X Y)
       | refine wp2_region ?_
       | refine wp2_cond fun X Y hX hY => ?_
       | (refine condK_of (fun c => ?_) (fun c => ?_) <;> (try simp [-List.length_eq_zero_iff] at c))
       | simp (maxSteps := 4000000) (disch := omega) [s10, s13, s14, o1])
      all_goals first | omega | skip
      refine hJ _ ?_ (by simp [s13]) (by simp [o1]) (fun i hi => by simp [n1 i hi])
      (repeat' first | exact q1 | exact q1 _ | refine Keep.put ?_ _ _ | refine Keep.setOb ?_ (by first | rfl | simp) _ | refine Keep.kill hc ?_ (by first | rfl | simp) | refine Keep.ren hc ?_ (by first | rfl | simp) | refine Keep.ren1 hc ?_ (by first | rfl | simp) | refine Keep.kill1 hc ?_ (by first | rfl | simp))
theorem wU_ren18 (l : List Way) (k e : Nat) : (wU l k).map (AV.rensG (renI 18 e)) = wU l k :=
  flatten_map_frees (p := fun id => renI 18 e id ≠ id) (fun _ he => AV.rensG_same he) (wU_free (fun i _ e => e (by simp)) (fun i _ e => e (by simp)))
theorem rU_ren18 (l : List Rln) (k e : Nat) : (rU l k).map (AV.rensG (renI 18 e)) = rU l k :=
  flatten_map_frees (p := fun id => renI 18 e id ≠ id) (fun _ he => AV.rensG_same he) (rU_free (fun i _ e => e (by simp)))
abbrev netE : List Nat := 79011 :: 79012 :: 79013 :: netIds
set_option maxHeartbeats 0 in
theorem toN_inl (s : St) (n : Net) (hL : LN n) (hc : s.Calm netE netE) {R : AV → St → Prop}
    (hR : ∀ s', Keep netE s s' → NetOb s' n → R (.agg (netV n)) s') : Inl Tryd.prog 7 [.agg (encN n |>.map .t)] s R := by
  refine inl_of_wp2 (fn := Tryd.f7) (k := k7) (fun _ => []) mixed (by kernel_rfl) rfl (by kernel_rfl) (by kernel_rfl) rfl (by simp [Tryd.f7]) ?_
  generalize hst : s.body [.agg (encN n |>.map .t)] = st0
  have q0 : ∀ F, Keep F s st0 := fun F => by rw [← hst]; exact (Keep.refl F s).body _
  have hob : st0.ob = s.ob := by rw [← hst]; rfl
  have t0 : st0.tm 0 = .agg (encN n |>.map .t) := by rw [← hst]; rfl
  clear hst
  unfold k7
  obtain ⟨l6, l4, l5, l7, ln, ll, lv⟩ := hL
  simp [encN] at t0
  repeat' (first
   | refine wp2_seq fun K hK => ?_
   | refine M_cons fun K hK => ?_
   | (refine hK _ ?_; clear hK K)
   | refine wp2_inl (mk := [10]) 2 rfl ?_
   | refine wp2_region ?_
   | (refine callT_fl (toI _ ?_) (by simp [St.args, St.arg, t0] <;> first | rfl | ((repeat' first | rfl | apply And.intro); first | done | fail)) ?_; omega)
   | simp (maxSteps := 4000000) (disch := omega) [t0])
  all_goals first | omega | skip
  generalize hst : St.put _ (some 9) _ = st1
  have q1 : Keep netE s (renL st1 [(1, 79011), (2, 79012), (3, 79013), (6, 70006)]) := by
    rw [← hst]
    simp only [renL_cons, renL_nil]
    (repeat' first | exact q0 | exact q0 _ | refine Keep.put ?_ _ _ | refine Keep.setOb ?_ (by first | rfl | simp) _ | refine Keep.kill hc ?_ (by first | rfl | simp) | refine Keep.ren hc ?_ (by first | rfl | simp) | refine Keep.ren1 hc ?_ (by first | rfl | simp) | refine Keep.kill1 hc ?_ (by first | rfl | simp))
  have u1 : (renL st1 [(1, 79011), (2, 79012), (3, 79013), (6, 70006)]).tm 1 = .ptr (79011, 0) 0 0 := by
    rw [← hst]
    simp
  have u2 : (renL st1 [(1, 79011), (2, 79012), (3, 79013), (6, 70006)]).tm 2 = .ptr (79012, 0) 0 0 := by
    rw [← hst]
    simp
  have u3 : (renL st1 [(1, 79011), (2, 79012), (3, 79013), (6, 70006)]).tm 3 = .ptr (79013, 0) 0 0 := by
    rw [← hst]
    simp
  have u9 : (renL st1 [(1, 79011), (2, 79012), (3, 79013), (6, 70006)]).tm 9 = .t (recs encW n.ways) := by
    rw [← hst]
    simp
  have v1 : (renL st1 [(1, 79011), (2, 79012), (3, 79013), (6, 70006)]).ob (79011, 0) = some (.var (encN n |>.map .t)) := by
    rw [← hst]
    simp [encN]
  have v2 : (renL st1 [(1, 79011), (2, 79012), (3, 79013), (6, 70006)]).ob (79012, 0) = some (.var [.t (.v (.slice none 0 0)), .t (.v (.slice none 0 0)), .t (.v (.slice none 0 0)), .t (.v (.slice none 0 0)), .t (.v (.int .i64 0))]) := by
    rw [← hst]
    simp
  have v3 : (renL st1 [(1, 79011), (2, 79012), (3, 79013), (6, 70006)]).ob (79013, 0) = some (.var [.row (70006, 0) 1 0 n.nodes.length, .t (.v (.slice none 0 0)), .t (.v (.slice none 0 0)), .t (.v (.slice none 0 0)), .t (.v (.int .i64 0))]) := by
    rw [← hst]
    simp
  have v6 : (renL st1 [(1, 79011), (2, 79012), (3, 79013), (6, 70006)]).ob (70006, 0) = some (.row 1 (intRow n.nodes)) := by
    rw [← hst]
    simp
  refine callI_named [(1, 79011), (2, 79012), (3, 79013), (6, 70006)] [1, 2, 3, 9] (fun id => calm netE id ∨ (id = (79011, 0) ∨ id = (79012, 0) ∨ id = (79013, 0) ∨ id = (70006, 0))) (by decide) ⟨Tryd.f28, by kernel_rfl, by kernel_rfl, rfl⟩ [.t (recs encW n.ways)] (by simp [-renL_cons, u9]) ?_
  clear hst t0 hob q0
  generalize renL st1 [(1, 79011), (2, 79012), (3, 79013), (6, 70006)] = st2 at *
  refine toWs_inl _ (push_frame hc q1 rfl (by simp [u1, u2, u3, u9, AV.free, calm]) ?_) n.ways l4 ln ll ?_
  · rintro id o (rfl | rfl | rfl | rfl) ho
    · rw [v1] at ho
      cases ho
      exact AV.frees_map_t _ _
    · rw [v2] at ho
      cases ho
      simp [Ob.avs, AV.frees, AV.free]
    · rw [v3] at ho
      cases ho
      simp [Ob.avs, AV.frees, AV.free, calm]
    · rw [v6] at ho
      cases ho
      unfold Ob.avs AV.frees; trivial
  intro s' hk' z4 z1 z2
  rw [← pop0_ob] at z4
  simp only [← pop0_ob s'] at z1 z2
  obtain ⟨kp, ktm⟩ := hk'.pop
  generalize s'.pop0 = s3 at *
  have q3 := keep_back q1 kp rfl
  have w1 : s3.tm 1 = .ptr (79011, 0) 0 0 := by rw [ktm]; simp [u1]
  have w2 : s3.tm 2 = .ptr (79012, 0) 0 0 := by rw [ktm]; simp [u2]
  have w3 : s3.tm 3 = .ptr (79013, 0) 0 0 := by rw [ktm]; simp [u3]
  have x1 := (back_ob kp (id := (79011, 0)) (.inl rfl) (by simp [calm])).trans v1
  have x2 := (back_ob kp (id := (79012, 0)) (.inr (.inl rfl)) (by simp [calm])).trans v2
  have x3 := (back_ob kp (id := (79013, 0)) (.inr (.inr (.inl rfl))) (by simp [calm])).trans v3
  have x6 := (back_ob kp (id := (70006, 0)) (.inr (.inr (.inr rfl))) (by simp [calm])).trans v6
  clear q1 hk' kp ktm u1 u2 u3 u9 v1 v2 v3 v6
  simp [encN] at x1
  repeat' (first
   | refine wp2_seq fun K hK => ?_
   | refine M_cons fun K hK => ?_
   | (refine hK _ ?_; clear hK K)
   | refine wp2_inl (mk := [14]) 2 rfl ?_
   | simp (maxSteps := 4000000) (disch := omega) [w1, w2, w3, x1, x2, x3, mk1, makes])
  generalize hst : St.put _ (some 13) _ = st4
  have q4 : Keep netE s st4 := by
    rw [← hst]
    (repeat' first | exact q3 | exact q3 _ | refine Keep.put ?_ _ _ | refine Keep.setOb ?_ (by first | rfl | simp) _ | refine Keep.kill hc ?_ (by first | rfl | simp) | refine Keep.ren hc ?_ (by first | rfl | simp) | refine Keep.ren1 hc ?_ (by first | rfl | simp) | refine Keep.kill1 hc ?_ (by first | rfl | simp))
  have u1 : st4.tm 1 = .ptr (79011, 0) 0 0 := by
    rw [← hst]
    simp [w1]
  have u2 : st4.tm 2 = .ptr (79012, 0) 0 0 := by
    rw [← hst]
    simp [w2]
  have u3 : st4.tm 3 = .ptr (79013, 0) 0 0 := by
    rw [← hst]
    simp [w3]
  have u13 : st4.tm 13 = .t (recs encR n.rels) := by
    rw [← hst]
    simp
  have v1 : st4.ob (79011, 0) = s3.ob (79011, 0) := by
    rw [← hst]
    simp [x1]
  have v2 : st4.ob (79012, 0) = s3.ob (79012, 0) := by
    rw [← hst]
    simp [x2]
  have v3 : st4.ob (79013, 0) = some (.var [.row (70006, 0) 1 0 n.nodes.length, .row (70004, 0) 4 0 n.ways.length, .t (.v (.slice none 0 0)), .t (.v (.slice none 0 0)), .t (.v (.int .i64 0))]) := by
    rw [← hst]
    simp
  have v6 : st4.ob (70006, 0) = s3.ob (70006, 0) := by
    rw [← hst]
    simp [x6]
  have v4 : st4.ob (70004, 0) = s3.ob (70004, 0) := by
    rw [← hst]
    simp [z4]
  have y1 : ∀ i : Nat, i < n.ways.length → st4.ob (70001, i) = some (.row 1 (intRow (nth n.ways (i : Int)).nodes)) := fun i hi => by
    rw [← hst]
    simp [z1 i hi]
  have y2 : ∀ i : Nat, i < n.ways.length → st4.ob (70002, i) = some (.row 1 (intRow (nth n.ways (i : Int)).lens)) := fun i hi => by
    rw [← hst]
    simp [z2 i hi]
  rw [x1] at v1
  rw [x2] at v2
  rw [x6] at v6
  rw [z4] at v4
  clear hst x1 x2 x3 x6 z1 z2 z4 w1 w2 w3 q3
  refine callI_named [] [1, 2, 3, 13] (fun id => calm netE id ∨ ((id = (79011, 0) ∨ id = (79012, 0) ∨ id = (79013, 0) ∨ id = (70006, 0)) ∨ id = (70004, 0) ∨ ∃ i : Nat, i < n.ways.length ∧ (id = (70001, i) ∨ id = (70002, i)))) (by decide) ⟨Tryd.f29, by kernel_rfl, by kernel_rfl, rfl⟩ [.t (recs encR n.rels)] (by simp [u13]) ?_
  rw [renL_nil]
  refine toRs_inl _ (push_frame hc q4 rfl (by simp [u1, u2, u3, u13, AV.free, calm]) ?_) n.rels l5 lv ?_
  · rintro id o ((rfl | rfl | rfl | rfl) | rfl | ⟨i, hi, rfl | rfl⟩) ho
    · rw [v1] at ho
      cases ho
      simp [Ob.avs, AV.frees, AV.free]
    · rw [v2] at ho
      cases ho
      simp [Ob.avs, AV.frees, AV.free]
    · rw [v3] at ho
      cases ho
      simp [Ob.avs, AV.frees, AV.free, calm]
    · rw [v6] at ho
      cases ho
      unfold Ob.avs AV.frees; trivial
    · rw [v4] at ho
      cases ho
      exact wU_free (by simp [calm]) (by simp [calm])
    · rw [y1 i hi] at ho
      cases ho
      unfold Ob.avs AV.frees; trivial
    · rw [y2 i hi] at ho
      cases ho
      unfold Ob.avs AV.frees; trivial
  intro s' hk' z5 z3
  rw [← pop0_ob] at z5
  simp only [← pop0_ob s'] at z3
  obtain ⟨kp, ktm⟩ := hk'.pop
  generalize s'.pop0 = s5 at *
  have q5 := keep_back q4 kp rfl
  have w1 : s5.tm 1 = .ptr (79011, 0) 0 0 := by rw [ktm]; simp [u1]
  have w2 : s5.tm 2 = .ptr (79012, 0) 0 0 := by rw [ktm]; simp [u2]
  have w3 : s5.tm 3 = .ptr (79013, 0) 0 0 := by rw [ktm]; simp [u3]
  have x1 := (back_ob kp (id := (79011, 0)) (.inl (.inl rfl)) (by simp [calm])).trans v1
  have x2 := (back_ob kp (id := (79012, 0)) (.inl (.inr (.inl rfl))) (by simp [calm])).trans v2
  have x3 := (back_ob kp (id := (79013, 0)) (.inl (.inr (.inr (.inl rfl)))) (by simp [calm])).trans v3
  have x6 := (back_ob kp (id := (70006, 0)) (.inl (.inr (.inr (.inr rfl)))) (by simp [calm])).trans v6
  have x4 := (back_ob kp (id := (70004, 0)) (.inr (.inl rfl)) (by simp [calm])).trans v4
  have z1 := fun (i : Nat) (hi : i < n.ways.length) => (back_ob kp (id := (70001, i)) (.inr (.inr ⟨i, hi, .inl rfl⟩)) (by simp [calm])).trans (y1 i hi)
  have z2 := fun (i : Nat) (hi : i < n.ways.length) => (back_ob kp (id := (70002, i)) (.inr (.inr ⟨i, hi, .inr rfl⟩)) (by simp [calm])).trans (y2 i hi)
  clear q4 hk' kp ktm u1 u2 u3 u13 v1 v2 v3 v6 v4 y1 y2
  repeat' (first
   | refine wp2_seq fun K hK => ?_
   | refine M_cons fun K hK => ?_
   | (refine hK _ ?_; clear hK K)
   | refine wp2_canon (ops := ⟨some 20, _, _⟩ :: _) [(18, 70007)] ?_
   | refine wp2_region ?_
   | (refine callT_gen false (toCs n.tcs l7) (by simp) (by simp [St.args, St.arg, w1, w2, w3, x1, x2, x3, mk1, makes] <;> first | rfl | ((repeat' first | rfl | apply And.intro); first | done | fail)) (by simp [apartArgs, mutsOf, noRow]) (by simp [callFrz, valsOf, outEff]) ?_)
   | simp (maxSteps := 4000000) (disch := omega) [w1, w2, w3, x1, x2, x3, mk1, makes])
  refine ⟨.agg (netV n), by simp [resultA, resA, w2, netV], hR _ ?_ ⟨?_, ?_, fun i hi => ?_, fun i hi => ?_, ?_, fun i hi => ?_, ?_⟩⟩
  · refine Keep.bare ?_
    (repeat' first | exact q5 | exact q5 _ | refine Keep.put ?_ _ _ | refine Keep.setOb ?_ (by first | rfl | simp) _ | refine Keep.kill hc ?_ (by first | rfl | simp) | refine Keep.ren hc ?_ (by first | rfl | simp) | refine Keep.ren1 hc ?_ (by first | rfl | simp) | refine Keep.kill1 hc ?_ (by first | rfl | simp))
  · simp [x6]
  · rw [← wU_all]
    simp [x4, wU_ren18]
  · simp [z1 i hi]
  · simp [z2 i hi]
  · rw [← rU_all]
    simp [z5, rU_ren18]
  · simp [z3 i hi]
  · simp
end Cal
