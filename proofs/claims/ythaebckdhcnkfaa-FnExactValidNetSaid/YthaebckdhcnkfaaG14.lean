/- A part of the proof: a calculus of our own over the model's code, and contracts of the program's functions. -/
import Derived.Test.YthaebckdhcnkfaaG10
import Derived.Test.YthaebckdhcnkfaaG11
import Derived.Test.YthaebckdhcnkfaaG13
/- The arguments' shapes: networks. -/
namespace Cal
open Go Go.Proofs
theorem i64_wf' {n : Int} (h : (Lit.int .i64 n).wf = true) : i64 n := by
  simp [Lit.wf, IntKind.min, IntKind.max, IntKind.signed, IntKind.bits] at h
  unfold i64
  omega
theorem fits_recs {α : Type} {ss : List Sh} {enc : α → List T} {P : α → Prop} (hE : ∀ e, Sh.fitss ss e → ∃ x, e = enc x ∧ P x) {x : T} (h : Sh.fits (.sl ss) x) : ∃ l : List α, x = recs enc l ∧ l.length ≤ maxLen ∧ ∀ y ∈ l, P y := by
  unfold Sh.fits at h
  obtain ⟨es, rfl, h1, h2⟩ := h
  have key : ∀ es : List (List T), (∀ e ∈ es, Sh.fitss ss e) → ∃ l : List α, es = l.map enc ∧ ∀ y ∈ l, P y := by
    intro es
    induction es with
    | nil => exact fun _ => ⟨[], rfl, by simp⟩
    | cons e es ih =>
      intro h
      obtain ⟨l, h1, h2⟩ := ih fun e' he' => h e' (by simp [he'])
      obtain ⟨y, rfl, hy⟩ := hE e (h e (by simp))
      exact ⟨y :: l, by rw [h1]; rfl, List.forall_mem_cons.2 ⟨hy, h2⟩⟩
  obtain ⟨l, rfl, h3⟩ := key es h2
  exact ⟨l, rfl, by simpa using h1, h3⟩
def PW (w : Way) : Prop := i64 w.id ∧ w.nodes.length ≤ 9223372036854775807 ∧ w.lens.length ≤ 9223372036854775807 ∧ ∀ j : Nat, j < w.nodes.length → i64 (rd w.nodes j)
def PR (r : Rln) : Prop := i64 r.fr ∧ i64 r.to ∧ i64 r.node ∧ r.via.length ≤ 9223372036854775807 ∧ ∀ j : Nat, j < r.via.length → i64 (rd r.via j)
def PC (t : Tc) : Prop := i64 t.fr ∧ i64 t.to
theorem i64s {l : List Int} (h : ∀ n ∈ l, (Lit.int .i64 n).wf = true) : ∀ j : Nat, j < l.length → i64 (rd l j) := fun j hj => i64_wf' (h _ (mem_rd.2 ⟨j, hj, rfl⟩))
theorem fits_way (e : List T) (h : Sh.fitss [.int .i64, .bool, .sl [.int .i64], .sl [.int .i64]] e) : ∃ w : Way, e = encW w ∧ PW w := by
  simp only [Sh.fitss] at h
  obtain ⟨x1, _, rfl, f1, x2, _, rfl, f2, x3, _, rfl, f3, x4, _, rfl, f4, rfl⟩ := h
  obtain ⟨a, rfl, m1⟩ := fits_int f1
  unfold Sh.fits at f2
  obtain ⟨b, rfl⟩ := f2
  obtain ⟨l3, rfl, m3, w3⟩ := fits_ints f3
  obtain ⟨l4, rfl, m4, _⟩ := fits_ints f4
  unfold maxLen at *
  exact ⟨⟨a, b, l3, l4⟩, rfl, i64_wf' m1, by show l3.length ≤ _; omega, by show l4.length ≤ _; omega, i64s w3⟩
theorem fits_rel (e : List T) (h : Sh.fitss [.int .i64, .bool, .int .i64, .int .i64, .bool, .int .i64, .sl [.int .i64]] e) : ∃ r : Rln, e = encR r ∧ PR r := by
  simp only [Sh.fitss] at h
  obtain ⟨x1, _, rfl, f1, x2, _, rfl, f2, x3, _, rfl, f3, x4, _, rfl, f4, x5, _, rfl, f5, x6, _, rfl, f6, x7, _, rfl, f7, rfl⟩ := h
  obtain ⟨a1, rfl, m1⟩ := fits_int f1
  unfold Sh.fits at f2
  obtain ⟨a2, rfl⟩ := f2
  obtain ⟨a3, rfl, m3⟩ := fits_int f3
  obtain ⟨a4, rfl, m4⟩ := fits_int f4
  unfold Sh.fits at f5
  obtain ⟨a5, rfl⟩ := f5
  obtain ⟨a6, rfl, m6⟩ := fits_int f6
  obtain ⟨l7, rfl, m7, w7⟩ := fits_ints f7
  unfold maxLen at *
  exact ⟨⟨a1, a2, a3, a4, a5, a6, l7⟩, rfl, i64_wf' m3, i64_wf' m4, i64_wf' m6, by show l7.length ≤ _; omega, i64s w7⟩
theorem fits_tc (e : List T) (h : Sh.fitss [.int .i64, .int .i64, .int .i64] e) : ∃ t : Tc, e = encC t ∧ PC t := by
  simp only [Sh.fitss] at h
  obtain ⟨x1, _, rfl, f1, x2, _, rfl, f2, x3, _, rfl, f3, rfl⟩ := h
  obtain ⟨a1, rfl, m1⟩ := fits_int f1
  obtain ⟨a2, rfl, m2⟩ := fits_int f2
  obtain ⟨a3, rfl, m3⟩ := fits_int f3
  exact ⟨⟨a1, a2, a3⟩, rfl, i64_wf' m1, i64_wf' m2⟩
theorem fits_net {xs : List T} (h : Sh.fitss [.sl [.int .i64], .sl [.int .i64, .bool, .sl [.int .i64], .sl [.int .i64]], .sl [.int .i64, .bool, .int .i64, .int .i64, .bool, .int .i64, .sl [.int .i64]], .sl [.int .i64, .int .i64, .int .i64], .int .i64] xs) : ∃ n : Net, xs = encN n ∧ (smallN n ∧ N64 n) := by
  simp only [Sh.fitss] at h
  obtain ⟨x1, _, rfl, f1, x2, _, rfl, f2, x3, _, rfl, f3, x4, _, rfl, f4, x5, _, rfl, f5, rfl⟩ := h
  obtain ⟨l1, rfl, m1, w1⟩ := fits_ints f1
  obtain ⟨l2, rfl, m2, w2⟩ := fits_recs fits_way f2
  obtain ⟨l3, rfl, m3, w3⟩ := fits_recs fits_rel f3
  obtain ⟨l4, rfl, m4, w4⟩ := fits_recs fits_tc f4
  obtain ⟨u, rfl, _⟩ := fits_int f5
  have k2 : ∀ i : Nat, i < l2.length → PW (nth l2 i) := fun i hi => w2 _ (mem_nth.2 ⟨i, hi, rfl⟩)
  have k3 : ∀ i : Nat, i < l3.length → PR (nth l3 i) := fun i hi => w3 _ (mem_nth.2 ⟨i, hi, rfl⟩)
  have k4 : ∀ i : Nat, i < l4.length → PC (nth l4 i) := fun i hi => w4 _ (mem_nth.2 ⟨i, hi, rfl⟩)
  unfold maxLen at *
  exact ⟨⟨l1, l2, l3, l4, u⟩, rfl, ⟨by show l1.length ≤ _; omega, by show l2.length ≤ _; omega, by show l3.length ≤ _; omega, by show l4.length ≤ _; omega, fun i hi => ⟨(k2 i hi).2.1, (k2 i hi).2.2.1⟩, fun i hi => (k3 i hi).2.2.2.1⟩,
    ⟨i64s w1, fun i hi => (k2 i hi).1, fun i hi => (k2 i hi).2.2.2, fun i hi => ⟨(k3 i hi).1, (k3 i hi).2.1, (k3 i hi).2.2.1⟩, fun i hi => (k3 i hi).2.2.2.2, fun i hi => k4 i hi⟩⟩
theorem sumL_le {α : Type} [Inhabited α] {f : α → Int} {l : List α} (h : ∀ x, 0 ≤ f x) {i : Nat} (hi : i < l.length) : f (nth l i) ≤ sumL f l l.length := by
  have h1 := sumL_mono (l := l) h (show i + 1 ≤ l.length by omega)
  have h2 := sumL_nn (l := l) h i
  have h3 : sumL f l (i + 1) = sumL f l i + f (nth l i) := rfl
  omega
theorem LN_of {n : Net} (h : sumN n ≤ 1048576) : LN n := by
  have nw : ∀ w : Way, 0 ≤ lenW w := fun w => by unfold lenW; omega
  have nr : ∀ w : Rln, 0 ≤ lenR w := fun w => by unfold lenR; omega
  have w0 := sumL_nn (l := n.ways) nw n.ways.length
  have r0 := sumL_nn (l := n.rels) nr n.rels.length
  unfold sumN sizeW sizeR at h
  refine ⟨by omega, by omega, by omega, by omega, fun i hi => ?_, fun i hi => ?_, fun i hi => ?_⟩
  · have := sumL_le (l := n.ways) nw hi
    unfold lenW at this w0 h
    omega
  · have := sumL_le (l := n.ways) nw hi
    unfold lenW at this w0 h
    omega
  · have := sumL_le (l := n.rels) nr hi
    unfold lenR at this r0 h
    omega
end Cal

set_option linter.unusedSimpArgs false
set_option linter.unusedVariables false
namespace Cal
open Go Go.Proofs
set_option maxRecDepth 100000
/-- The code of laws.FnExactValidNet. -/
def k10 : Code1 :=
  (.seq
    (.region [1] false ([]) [
      ⟨some 1, Op.box 55 (Operand.tmp 0), none⟩,
      ⟨some 2, Op.assign (Operand.const (Value.bool false)), none⟩])
    (.seq
      (.region [] false ([]) [
        ⟨some 3, Op.assign (Operand.const (Value.int IntKind.i64 1048576)), none⟩])
      (.seq
        (.region [9] false ([]) [
          ⟨some 7, Op.load 55 (Operand.tmp 1), none⟩,
          ⟨some 8, Op.move (Operand.tmp 3), none⟩,
          ⟨some 9, Op.call { callee := Callee.value (Operand.func 36), args := #[Operand.tmp 7, Operand.tmp 8], argTypes := #[55, 3] }, none⟩,
          ⟨some 3, Op.assign (Operand.tmp 9), none⟩])
        (.seq
          (.seq
            (.region [] false ([]) [
              ⟨some 10, Op.move (Operand.tmp 3), none⟩,
              ⟨some 11, Op.binOp BinOp.lss 3 (Operand.tmp 10) (Operand.const (Value.int IntKind.i64 0)) 3, none⟩])
            (.cond (Operand.tmp 11)
              (.seq
                (.region [] false ([]) [
                  ⟨some 2, Op.assign (Operand.const (Value.bool true)), none⟩])
                .ret)
              .skip))
          (.seq
            (.region [13, 14] false ([]) [
              ⟨some 12, Op.load 55 (Operand.tmp 1), none⟩,
              ⟨some 13, Op.call { callee := Callee.value (Operand.func 38), args := #[Operand.tmp 12], argTypes := #[55] }, none⟩,
              ⟨some 14, Op.call { callee := Callee.value (Operand.func 37), args := #[Operand.tmp 13], argTypes := #[62] }, none⟩,
              ⟨some 4, Op.assign (Operand.tmp 14), none⟩])
            (.seq
              (.region [16, 5] false ([]) [
                ⟨some 15, Op.load 55 (Operand.tmp 1), none⟩,
                ⟨some 16, Op.call { callee := Callee.value (Operand.func 38), args := #[Operand.tmp 15], argTypes := #[55] }, none⟩,
                ⟨some 5, Op.alloc 62, none⟩,
                ⟨none, Op.store 62 (Operand.tmp 5) (Operand.tmp 16), none⟩])
              (.seq
                (.region [18] false ([]) [
                  ⟨some 17, Op.load 62 (Operand.tmp 5), none⟩,
                  ⟨some 18, Op.call { callee := Callee.value (Operand.func 39), args := #[Operand.tmp 17], argTypes := #[62] }, none⟩,
                  ⟨some 6, Op.assign (Operand.tmp 18), none⟩])
                (.seq
                  (.seq
                    (.region [] false ([]) [
                      ⟨some 19, Op.move (Operand.tmp 6), none⟩,
                      ⟨some 20, Op.move (Operand.tmp 4), none⟩,
                      ⟨some 21, Op.binOp BinOp.neq 4 (Operand.tmp 19) (Operand.tmp 20) 4, none⟩])
                    (.cond (Operand.tmp 21)
                      (.seq
                        (.region [] false ([]) [
                          ⟨some 2, Op.assign (Operand.const (Value.bool false)), none⟩])
                        .ret)
                      .skip))
                  (.seq
                    (.seq
                      (.region [24, 25] true ([]) [
                        ⟨some 22, Op.load 62 (Operand.tmp 5), none⟩,
                        ⟨some 23, Op.load 55 (Operand.tmp 1), none⟩,
                        ⟨some 24, Op.call { callee := Callee.value (Operand.func 38), args := #[Operand.tmp 23], argTypes := #[55] }, none⟩,
                        ⟨some 25, Op.call { callee := Callee.value (Operand.func 40), args := #[Operand.tmp 22, Operand.tmp 24], argTypes := #[62, 62] }, none⟩,
                        ⟨some 26, Op.unOp UnOp.not 4 (Operand.tmp 25), none⟩])
                      (.cond (Operand.tmp 26)
                        (.seq
                          (.region [] false ([]) [
                            ⟨some 2, Op.assign (Operand.const (Value.bool false)), none⟩])
                          .ret)
                        .skip))
                    (.seq
                      (.region [] false ([]) [
                        ⟨some 2, Op.assign (Operand.const (Value.bool true)), none⟩])
                      .ret))))))))))
set_option maxHeartbeats 0 in
theorem lawVN (n : Net) (hg : smallN n ∧ N64 n) : CallsF Try.prog 10 [.agg (encN n)] (.t (.v (.bool true))) [] := by
  obtain ⟨hg, h64⟩ := hg
  refine callsF_of_wp1 (fn := Try.f10) (k := k10) (fun _ => []) mixed (by kernel_rfl) rfl (by kernel_rfl) (by kernel_rfl) (by kernel_rfl) rfl (by simp [Try.f10]) (by simp [Arg.like]) ?_
  generalize hst : St.enter [.agg (encN n)] = st0
  have t0 : st0.tm 0 = .agg ((encN n) |>.map .t) := by rw [← hst]; rfl
  clear hst
  unfold k10
  simp [encN] at t0
  by_cases hs : 1048576 < sumN n
  · have e : leave 1048576 (sumN n) = -1 := if_pos hs
    repeat' (first
      | (refine wp2_seq fun K hK => ?_)
      | (refine wp1_seq fun K hK => ?_)
      | (refine M_cons fun K hK => ?_)
      | (refine hK _ ?_; clear hK K)
      | (clear hK K; refine hK _ ?_; clear hK K)
      | (clear hK K; clear hK K; refine hK _ ?_; clear hK K)
      | (clear hK K; clear hK K; clear hK K; refine hK _ ?_; clear hK K)
      | (refine hX _ ?_; clear hX hY X Y)
      | (refine hY _ ?_; clear hX hY X Y)
      | (refine wp2_block ?_)
      | (refine wp1_block ?_)
      | (refine wp2_region ?_)
      | (refine wp1_region ?_)
      | (refine wp2_cond fun X Y hX hY => ?_)
      | (refine wp1_cond fun X Y hX hY => ?_)
      | (refine condK_of (fun c => ?_) (fun c => ?_) <;> (try simp [-List.length_eq_zero_iff] at c))
      | (refine guard1_or (fun c => ?_) (fun c => ?_) <;> (have cc := c) <;> (try simp [-List.length_eq_zero_iff] at cc) <;> (try simp (disch := omega) [t0, e, encN, c]))
      | (refine callT_fl (szN n _ hg ?_ ?_) (by simp [St.args, St.arg, t0, e, encN] <;> first | rfl | ((repeat' first | rfl | apply And.intro); done)) (by first | (simp [RV.flat, RV.flats, T.flat]; done) | ((repeat' first | exact flat_intRow _ | exact flat_boolRow _ | exact trivial | constructor | unfold RV.flat | unfold RV.flats); done)) (by simp [mutsOf]) ?_; omega; omega)
      | (simp (disch := omega) [t0, e, encN]))
    all_goals try (simp [t0, e, encN, Back]; done)
  · have hs2 : sumN n ≤ 1048576 := by omega
    have hL := LN_of hs2
    have e : leave 1048576 (sumN n) = 1048576 - sumN n := if_neg hs
    have hs3 : 0 ≤ 1048576 - sumN n := by omega
    repeat' (first
      | (refine wp2_seq fun K hK => ?_)
      | (refine wp1_seq fun K hK => ?_)
      | (refine M_cons fun K hK => ?_)
      | (refine hK _ ?_; clear hK K)
      | (clear hK K; refine hK _ ?_; clear hK K)
      | (clear hK K; clear hK K; refine hK _ ?_; clear hK K)
      | (clear hK K; clear hK K; clear hK K; refine hK _ ?_; clear hK K)
      | (refine hX _ ?_; clear hX hY X Y)
      | (refine hY _ ?_; clear hX hY X Y)
      | (refine wp2_block ?_)
      | (refine wp1_block ?_)
      | (refine wp2_region ?_)
      | (refine wp1_region ?_)
      | (refine wp2_cond fun X Y hX hY => ?_)
      | (refine wp1_cond fun X Y hX hY => ?_)
      | (refine condK_of (fun c => ?_) (fun c => ?_) <;> (try simp [-List.length_eq_zero_iff] at c))
      | (refine guard1_or (fun c => ?_) (fun c => ?_) <;> (have cc := c) <;> (try simp [-List.length_eq_zero_iff] at cc) <;> (try simp (disch := omega) [t0, e, encN, rvN, c]))
      | (refine callT_fl (szN n _ hg ?_ ?_) (by simp [St.args, St.arg, t0, e, encN, rvN] <;> first | rfl | ((repeat' first | rfl | apply And.intro); done)) (by first | (simp [RV.flat, RV.flats, T.flat]; done) | ((repeat' first | exact flat_intRow _ | exact flat_boolRow _ | exact trivial | constructor | unfold RV.flat | unfold RV.flats); done)) (by simp [mutsOf]) ?_; omega; omega)
      | (refine callT_gen false (toN n hL) (by simp) (by simp [St.args, St.arg, t0, e, encN, rvN] <;> first | rfl | ((repeat' first | rfl | apply And.intro); done)) (by simp [apartArgs, mutsOf, noRow]) (by simp [callFrz, valsOf, outEff]) ?_)
      | (refine callT_fl (vnS n hL) (by simp [St.args, St.arg, t0, e, encN, rvN] <;> first | rfl | ((repeat' first | rfl | apply And.intro); done)) (by first | (simp [RV.flat, RV.flats, T.flat]; done) | ((repeat' first | exact flat_intRow _ | exact flat_boolRow _ | exact trivial | constructor | unfold RV.flat | unfold RV.flats); done)) (by simp [mutsOf]) ?_)
      | (refine callT_fl (vnI n hL h64) (by simp [St.args, St.arg, t0, e, encN, rvN] <;> first | rfl | ((repeat' first | rfl | apply And.intro); done)) (by first | (simp [RV.flat, RV.flats, T.flat]; done) | ((repeat' first | exact flat_intRow _ | exact flat_boolRow _ | exact trivial | constructor | unfold RV.flat | unfold RV.flats); done)) (by simp [mutsOf]) ?_)
      | (refine callT_fl (eqN n hL) (by simp [St.args, St.arg, t0, e, encN, rvN] <;> first | rfl | ((repeat' first | rfl | apply And.intro); done)) (by first | (simp [RV.flat, RV.flats, T.flat]; done) | ((repeat' first | exact flat_intRow _ | exact flat_boolRow _ | exact trivial | constructor | unfold RV.flat | unfold RV.flats); done)) (by simp [mutsOf]) ?_)
      | (simp (disch := omega) [t0, e, encN, rvN]))
    all_goals try (simp [t0, e, encN, rvN, Back]; done)
    all_goals first | omega | skip
end Cal
