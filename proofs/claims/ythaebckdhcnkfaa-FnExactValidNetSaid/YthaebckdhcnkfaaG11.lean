/- A part of the proof: a calculus of our own over the model's code, and contracts of the program's functions. -/
import Derived.Test.YthaebckdhcnkfaaG9
import Derived.Test.YthaebckdhcnkfaaG10
set_option linter.unusedSimpArgs false
set_option linter.unusedVariables false
namespace Cal
open Go Go.Proofs
set_option maxRecDepth 100000
set_option maxHeartbeats 4000000 in
theorem vnI (n : Net) (h : LN n) (h64 : N64 n) : CallsF Try.prog 39 [.agg (encN n)] (.t (.v (.bool (decide (VNet n))))) [] := by
  have hL := h
  obtain ⟨h1, h2, h3, h4, h5, h6, h7⟩ := h
  refine callsF_of_wp2 (fn := Try.f39) (k := k39) (fun _ => []) mixed (by kernel_rfl) rfl (by kernel_rfl) (by kernel_rfl) (by kernel_rfl) rfl (by simp [Try.f39]) (by simp [Arg.like]) ?_
  generalize hst : St.enter [.agg (encN n)] = st0
  have t0 : st0.tm 0 = .agg ((encN n) |>.map .t) := by rw [← hst]; rfl
  clear hst
  unfold k39
  simp [encN] at t0
  repeat' (first
    | (refine wp2_seq fun K hK => ?_)
    | (refine wp1_seq fun K hK => ?_)
    | (refine M_cons fun K hK => ?_)
    | (refine hK _ ?_; clear hK K)
    | (clear hK K; refine hK _ ?_; clear hK K)
    | (clear hK K; clear hK K; refine hK _ ?_; clear hK K)
    | (clear hK K; clear hK K; clear hK K; refine hK _ ?_; clear hK K)
    | (refine hX _ ?_; clear hX hY X Y)
    | (refine hY _ ?_; clear hX hY X Y)
    | (refine wp2_block ?_)
    | (refine wp1_block ?_)
    | (refine wp2_region ?_)
    | (refine wp1_region ?_)
    | (refine wp2_cond fun X Y hX hY => ?_)
    | (refine wp1_cond fun X Y hX hY => ?_)
    | (refine condK_of (fun c => ?_) (fun c => ?_) <;> (try simp [-List.length_eq_zero_iff] at c))
    | (refine guard1_or (fun c => ?_) (fun c => ?_) <;> (have cc := c) <;> (try simp [-List.length_eq_zero_iff] at cc) <;> (try simp (disch := omega) [t0, c]))
    | (refine callT_fl (inRange_c _) (by simp [St.args, St.arg, t0] <;> first | rfl | ((repeat' first | rfl | apply And.intro); done)) (by first | (simp [RV.flat, RV.flats, T.flat]; done) | ((repeat' first | exact flat_intRow _ | exact flat_boolRow _ | exact trivial | constructor | unfold RV.flat | unfold RV.flats); done)) (by simp [mutsOf]) ?_)
    | (simp (disch := omega) [t0]))
  all_goals try (simp [t0, Back]; done)
  all_goals try (have hv : ¬ VNet n := (fun h => by
      have e1 := h.u; have e2 := h.c1; have e3 := h.c2; have e4 := h.c3; have e5 := h.c4
      first | omega | contradiction); simp [Back, hv]; done)
  have g0 : inR n.uturn := by assumption
  have g1 : n.nodes.length ≤ 2000 := by omega
  have g2 : n.ways.length ≤ 2000 := by omega
  have g3 : n.rels.length ≤ 1000 := by omega
  have g4 : n.tcs.length ≤ 2000 := by omega
  refine wp2_loop _ n.nodes.length ?_ (vnI_l0 n hL h64 ?_)
  · refine ⟨0, ?_⟩
    simp [t0, objN, setN, setW, vmap]
  · clear t0
    rintro s ⟨s1, o1, s3, o3, s4, o4, g5⟩
    simp only [objN] at o1
    repeat' (first
      | (refine wp2_seq fun K hK => ?_)
      | (refine wp1_seq fun K hK => ?_)
      | (refine M_cons fun K hK => ?_)
      | (refine hK _ ?_; clear hK K)
      | (clear hK K; refine hK _ ?_; clear hK K)
      | (clear hK K; clear hK K; refine hK _ ?_; clear hK K)
      | (clear hK K; clear hK K; clear hK K; refine hK _ ?_; clear hK K)
      | (refine hX _ ?_; clear hX hY X Y)
      | (refine hY _ ?_; clear hX hY X Y)
      | (refine wp2_block ?_)
      | (refine wp1_block ?_)
      | (refine wp2_region ?_)
      | (refine wp1_region ?_)
      | (refine wp2_cond fun X Y hX hY => ?_)
      | (refine wp1_cond fun X Y hX hY => ?_)
      | (refine condK_of (fun c => ?_) (fun c => ?_) <;> (try simp [-List.length_eq_zero_iff] at c))
      | (refine guard1_or (fun c => ?_) (fun c => ?_) <;> (have cc := c) <;> (try simp [-List.length_eq_zero_iff] at cc) <;> (try simp (disch := omega) [s1, o1, s3, o3, s4, o4, c]))
      | (simp (disch := omega) [s1, o1, s3, o3, s4, o4]))
    all_goals try (simp [s1, o1, s3, o3, s4, o4, Back]; done)
    refine wp2_loop _ n.ways.length ?_ (vnI_l1 n hL h64 ?_)
    · refine ⟨0, ?_⟩
      simp [s1, o1, s3, o3, s4, o4, objN]
    · clear s1 o1 s3 o3 s4 o4
      rintro s ⟨s1, o1, s3, o3, s4, o4, g6⟩
      simp only [objN] at o1
      have hE := sumE_le h6 n.ways.length (Nat.le_refl _)
      repeat' (first
        | (refine wp2_seq fun K hK => ?_)
        | (refine wp1_seq fun K hK => ?_)
        | (refine M_cons fun K hK => ?_)
        | (refine hK _ ?_; clear hK K)
        | (clear hK K; refine hK _ ?_; clear hK K)
        | (clear hK K; clear hK K; refine hK _ ?_; clear hK K)
        | (clear hK K; clear hK K; clear hK K; refine hK _ ?_; clear hK K)
        | (refine hX _ ?_; clear hX hY X Y)
        | (refine hY _ ?_; clear hX hY X Y)
        | (refine wp2_block ?_)
        | (refine wp1_block ?_)
        | (refine wp2_region ?_)
        | (refine wp1_region ?_)
        | (refine wp2_cond fun X Y hX hY => ?_)
        | (refine wp1_cond fun X Y hX hY => ?_)
        | (refine condK_of (fun c => ?_) (fun c => ?_) <;> (try simp [-List.length_eq_zero_iff] at c))
        | (refine guard1_or (fun c => ?_) (fun c => ?_) <;> (have cc := c) <;> (try simp [-List.length_eq_zero_iff] at cc) <;> (try simp (disch := omega) [s1, o1, s3, o3, s4, o4, c]))
        | (refine callT_fl (edgesOf_c n.ways h2 h6) (by simp [St.args, St.arg, s1, o1, s3, o3, s4, o4] <;> first | rfl | ((repeat' first | rfl | apply And.intro); done)) (by first | (simp [RV.flat, RV.flats, T.flat]; done) | ((repeat' first | exact flat_intRow _ | exact flat_boolRow _ | exact trivial | constructor | unfold RV.flat | unfold RV.flats); done)) (by simp [mutsOf]) ?_)
        | (simp (disch := omega) [s1, o1, s3, o3, s4, o4]))
      all_goals try (simp [s1, o1, s3, o3, s4, o4, Back]; done)
      all_goals try (have hv : ¬ VNet n := (fun h => by have e1 := h.es; omega); simp [Back, hv]; done)
      have g7 : sumE n.ways n.ways.length ≤ 4000 := by omega
      refine wp2_loop _ n.rels.length ?_ (vnI_l4 n hL h64 ?_)
      · refine ⟨0, ?_⟩
        simp [s1, o1, s3, o3, s4, o4, objN]
      · clear s1 o1 s3 o3 s4 o4
        rintro s ⟨s1, o1, s3, o3, s4, o4, g8⟩
        simp only [objN] at o1
        repeat' (first
          | (refine wp2_seq fun K hK => ?_)
          | (refine wp1_seq fun K hK => ?_)
          | (refine M_cons fun K hK => ?_)
          | (refine hK _ ?_; clear hK K)
          | (clear hK K; refine hK _ ?_; clear hK K)
          | (clear hK K; clear hK K; refine hK _ ?_; clear hK K)
          | (clear hK K; clear hK K; clear hK K; refine hK _ ?_; clear hK K)
          | (refine hX _ ?_; clear hX hY X Y)
          | (refine hY _ ?_; clear hX hY X Y)
          | (refine wp2_block ?_)
          | (refine wp1_block ?_)
          | (refine wp2_region ?_)
          | (refine wp1_region ?_)
          | (refine wp2_cond fun X Y hX hY => ?_)
          | (refine wp1_cond fun X Y hX hY => ?_)
          | (refine condK_of (fun c => ?_) (fun c => ?_) <;> (try simp [-List.length_eq_zero_iff] at c))
          | (refine guard1_or (fun c => ?_) (fun c => ?_) <;> (have cc := c) <;> (try simp [-List.length_eq_zero_iff] at cc) <;> (try simp (disch := omega) [s1, o1, s3, o3, s4, o4, c]))
          | (simp (disch := omega) [s1, o1, s3, o3, s4, o4]))
        all_goals try (simp [s1, o1, s3, o3, s4, o4, Back]; done)
        refine wp2_loop _ n.tcs.length ?_ (vnI_l6 n hL h64 ?_)
        · refine ⟨0, ?_⟩
          simp [s1, o1, s3, o3, s4, o4, objN]
        · intro s g9
          have hv : VNet n := ⟨g0, g1, g2, g3, g4, g5, g6, g7, g8, g9⟩
          repeat' (first
            | (refine wp2_seq fun K hK => ?_)
            | (refine wp1_seq fun K hK => ?_)
            | (refine M_cons fun K hK => ?_)
            | (refine hK _ ?_; clear hK K)
            | (clear hK K; refine hK _ ?_; clear hK K)
            | (clear hK K; clear hK K; refine hK _ ?_; clear hK K)
            | (clear hK K; clear hK K; clear hK K; refine hK _ ?_; clear hK K)
            | (refine hX _ ?_; clear hX hY X Y)
            | (refine hY _ ?_; clear hX hY X Y)
            | (refine wp2_block ?_)
            | (refine wp1_block ?_)
            | (refine wp2_region ?_)
            | (refine wp1_region ?_)
            | (refine wp2_cond fun X Y hX hY => ?_)
            | (refine wp1_cond fun X Y hX hY => ?_)
            | (refine condK_of (fun c => ?_) (fun c => ?_) <;> (try simp [-List.length_eq_zero_iff] at c))
            | (refine guard1_or (fun c => ?_) (fun c => ?_) <;> (have cc := c) <;> (try simp [-List.length_eq_zero_iff] at cc) <;> (try simp (disch := omega) [hv, c]))
            | (simp (disch := omega) [hv]))
          all_goals try (simp [hv, Back]; done)
end Cal

set_option linter.unusedSimpArgs false
set_option linter.unusedVariables false
namespace Cal
open Go Go.Proofs
set_option maxRecDepth 100000
/-- What a size leaves. -/
def leave (left z : Int) : Int := if left < z then -1 else left - z
def lenW (w : Way) : Int := w.nodes.length + w.lens.length
def lenR (r : Rln) : Int := r.via.length
def sumL {α : Type} [Inhabited α] (f : α → Int) (l : List α) : Nat → Int
  | 0 => 0
  | k + 1 => sumL f l k + f (nth l k)
theorem sumL_mono {α : Type} [Inhabited α] {f : α → Int} {l : List α} (h : ∀ x, 0 ≤ f x) {i j : Nat} (hij : i ≤ j) : sumL f l i ≤ sumL f l j := by
  induction j with
  | zero => obtain rfl : i = 0 := by omega
            exact Int.le_refl _
  | succ j ih =>
    rcases Nat.lt_or_ge i (j + 1) with h1 | h1
    · have := ih (by omega)
      have := h (nth l j)
      show sumL f l i ≤ sumL f l j + f (nth l j)
      omega
    · obtain rfl : i = j + 1 := by omega
      exact Int.le_refl _
theorem sumL_nn {α : Type} [Inhabited α] {f : α → Int} {l : List α} (h : ∀ x, 0 ≤ f x) (k : Nat) : 0 ≤ sumL f l k := sumL_mono (i := 0) h (by omega)
/-- The code of laws.szWay. -/
def k76 : Code1 :=
  (.seq
    (.region [2] false ([]) [
      ⟨some 2, Op.box 111 (Operand.tmp 0), none⟩,
      ⟨some 4, Op.assign (Operand.const (Value.int IntKind.i64 0)), none⟩])
    (.seq
      (.region [8] false ([]) [
        ⟨some 5, Op.fieldAddr 111 (Operand.tmp 2) 2, none⟩,
        ⟨some 6, Op.load 22 (Operand.tmp 5), none⟩,
        ⟨some 7, Op.move (Operand.tmp 1), none⟩,
        ⟨some 8, Op.call { callee := Callee.value (Operand.func 41), args := #[Operand.tmp 6, Operand.tmp 7], argTypes := #[22, 3] }, none⟩,
        ⟨some 1, Op.assign (Operand.tmp 8), none⟩])
      (.seq
        (.seq
          (.region [] false ([]) [
            ⟨some 9, Op.move (Operand.tmp 1), none⟩,
            ⟨some 10, Op.binOp BinOp.lss 3 (Operand.tmp 9) (Operand.const (Value.int IntKind.i64 0)) 3, none⟩])
          (.cond (Operand.tmp 10)
            (.seq
              (.region [] false ([]) [
                ⟨some 4, Op.assign (Operand.const (Value.int IntKind.i64 (-1))), none⟩])
              .ret)
            .skip))
        (.seq
          (.region [14] false ([]) [
            ⟨some 11, Op.fieldAddr 111 (Operand.tmp 2) 3, none⟩,
            ⟨some 12, Op.load 22 (Operand.tmp 11), none⟩,
            ⟨some 13, Op.move (Operand.tmp 1), none⟩,
            ⟨some 14, Op.call { callee := Callee.value (Operand.func 41), args := #[Operand.tmp 12, Operand.tmp 13], argTypes := #[22, 3] }, none⟩,
            ⟨some 1, Op.assign (Operand.tmp 14), none⟩])
          (.seq
            (.seq
              (.region [] false ([]) [
                ⟨some 15, Op.move (Operand.tmp 1), none⟩,
                ⟨some 16, Op.binOp BinOp.lss 3 (Operand.tmp 15) (Operand.const (Value.int IntKind.i64 0)) 3, none⟩])
              (.cond (Operand.tmp 16)
                (.seq
                  (.region [] false ([]) [
                    ⟨some 4, Op.assign (Operand.const (Value.int IntKind.i64 (-1))), none⟩])
                  .ret)
                .skip))
            (.seq
              (.region [] false ([]) [
                ⟨some 17, Op.move (Operand.tmp 1), none⟩,
                ⟨some 4, Op.assign (Operand.tmp 17), none⟩])
              .ret))))))
theorem szW (w : Way) (left : Int) (g1 : w.nodes.length ≤ 9223372036854775807) (g2 : w.lens.length ≤ 9223372036854775807) (h1 : 0 ≤ left) (h2 : left < 1152921504606846976) :
    CallsF Try.prog 76 [.agg (encW w), .val (.v (.int .i64 left))] (.t (.v (.int .i64 (leave left (lenW w))))) [] := by
  refine callsF_of_wp1 (fn := Try.f76) (k := k76) (fun _ => []) mixed (by kernel_rfl) rfl (by kernel_rfl) (by kernel_rfl) (by kernel_rfl) rfl (by simp [Try.f76]) (by simp [Arg.like]) ?_
  generalize hst : St.enter [.agg (encW w), .val (.v (.int .i64 left))] = st0
  have t0 : st0.tm 0 = .agg ((encW w) |>.map .t) := by rw [← hst]; rfl
  have t1 : st0.tm 1 = .t (.v (.int .i64 left)) := by rw [← hst]; rfl
  clear hst
  unfold k76
  simp [encW] at t0
  have hd : (left < (w.nodes.length : Int)) ∨ ((w.nodes.length : Int) ≤ left ∧ left < (w.nodes.length : Int) + w.lens.length) ∨ ((w.nodes.length : Int) + w.lens.length ≤ left) := by omega
  rcases hd with e | e | e
  all_goals
    repeat' (first
      | (refine wp2_seq fun K hK => ?_)
      | (refine wp1_seq fun K hK => ?_)
      | (refine M_cons fun K hK => ?_)
      | (refine hK _ ?_; clear hK K)
      | (clear hK K; refine hK _ ?_; clear hK K)
      | (clear hK K; clear hK K; refine hK _ ?_; clear hK K)
      | (clear hK K; clear hK K; clear hK K; refine hK _ ?_; clear hK K)
      | (refine hX _ ?_; clear hX hY X Y)
      | (refine hY _ ?_; clear hX hY X Y)
      | (refine wp2_block ?_)
      | (refine wp1_block ?_)
      | (refine wp2_region ?_)
      | (refine wp1_region ?_)
      | (refine wp2_cond fun X Y hX hY => ?_)
      | (refine wp1_cond fun X Y hX hY => ?_)
      | (refine condK_of (fun c => ?_) (fun c => ?_) <;> (try simp [-List.length_eq_zero_iff] at c))
      | (refine guard1_or (fun c => ?_) (fun c => ?_) <;> (have cc := c) <;> (try simp [-List.length_eq_zero_iff] at cc) <;> (try simp (disch := omega) [t0, t1, c]))
      | (refine callT_fl (szI_ok _ _ ?_ ?_ ?_) (by simp [St.args, St.arg, t0, t1] <;> first | rfl | ((repeat' first | rfl | apply And.intro); done)) (by first | (simp [RV.flat, RV.flats, T.flat]; done) | ((repeat' first | exact flat_intRow _ | exact flat_boolRow _ | exact trivial | constructor | unfold RV.flat | unfold RV.flats); done)) (by simp [mutsOf]) ?_; omega; omega; omega)
      | (refine callT_fl (szI_no _ _ ?_ ?_ ?_) (by simp [St.args, St.arg, t0, t1] <;> first | rfl | ((repeat' first | rfl | apply And.intro); done)) (by first | (simp [RV.flat, RV.flats, T.flat]; done) | ((repeat' first | exact flat_intRow _ | exact flat_boolRow _ | exact trivial | constructor | unfold RV.flat | unfold RV.flats); done)) (by simp [mutsOf]) ?_; omega; omega; omega)
      | (simp (disch := omega) [t0, t1]))
    all_goals try (simp [t0, t1, Back]; done)
  all_goals first
    | (have hs : left < lenW w := by (unfold lenW; omega)
       simp [Back, leave, hs]; done)
    | (have hs : ¬ left < lenW w := by (unfold lenW; omega)
       simp [Back, leave, hs]
       unfold lenW
       omega)
/-- The code of laws.szRelation. -/
def k77 : Code1 :=
  (.seq
    (.region [2] false ([]) [
      ⟨some 2, Op.box 113 (Operand.tmp 0), none⟩,
      ⟨some 4, Op.assign (Operand.const (Value.int IntKind.i64 0)), none⟩])
    (.seq
      (.region [8] false ([]) [
        ⟨some 5, Op.fieldAddr 113 (Operand.tmp 2) 6, none⟩,
        ⟨some 6, Op.load 22 (Operand.tmp 5), none⟩,
        ⟨some 7, Op.move (Operand.tmp 1), none⟩,
        ⟨some 8, Op.call { callee := Callee.value (Operand.func 41), args := #[Operand.tmp 6, Operand.tmp 7], argTypes := #[22, 3] }, none⟩,
        ⟨some 1, Op.assign (Operand.tmp 8), none⟩])
      (.seq
        (.seq
          (.region [] false ([]) [
            ⟨some 9, Op.move (Operand.tmp 1), none⟩,
            ⟨some 10, Op.binOp BinOp.lss 3 (Operand.tmp 9) (Operand.const (Value.int IntKind.i64 0)) 3, none⟩])
          (.cond (Operand.tmp 10)
            (.seq
              (.region [] false ([]) [
                ⟨some 4, Op.assign (Operand.const (Value.int IntKind.i64 (-1))), none⟩])
              .ret)
            .skip))
        (.seq
          (.region [] false ([]) [
            ⟨some 11, Op.move (Operand.tmp 1), none⟩,
            ⟨some 4, Op.assign (Operand.tmp 11), none⟩])
          .ret))))
theorem szR (r : Rln) (left : Int) (g1 : r.via.length ≤ 9223372036854775807) (h1 : 0 ≤ left) (h2 : left < 1152921504606846976) :
    CallsF Try.prog 77 [.agg (encR r), .val (.v (.int .i64 left))] (.t (.v (.int .i64 (leave left (lenR r))))) [] := by
  refine callsF_of_wp1 (fn := Try.f77) (k := k77) (fun _ => []) mixed (by kernel_rfl) rfl (by kernel_rfl) (by kernel_rfl) (by kernel_rfl) rfl (by simp [Try.f77]) (by simp [Arg.like]) ?_
  generalize hst : St.enter [.agg (encR r), .val (.v (.int .i64 left))] = st0
  have t0 : st0.tm 0 = .agg ((encR r) |>.map .t) := by rw [← hst]; rfl
  have t1 : st0.tm 1 = .t (.v (.int .i64 left)) := by rw [← hst]; rfl
  clear hst
  unfold k77
  simp [encR] at t0
  have hd : (left < (r.via.length : Int)) ∨ ((r.via.length : Int) ≤ left) := by omega
  rcases hd with e | e
  all_goals
    repeat' (first
      | (refine wp2_seq fun K hK => ?_)
      | (refine wp1_seq fun K hK => ?_)
      | (refine M_cons fun K hK => ?_)
      | (refine hK _ ?_; clear hK K)
      | (clear hK K; refine hK _ ?_; clear hK K)
      | (clear hK K; clear hK K; refine hK _ ?_; clear hK K)
      | (clear hK K; clear hK K; clear hK K; refine hK _ ?_; clear hK K)
      | (refine hX _ ?_; clear hX hY X Y)
      | (refine hY _ ?_; clear hX hY X Y)
      | (refine wp2_block ?_)
      | (refine wp1_block ?_)
      | (refine wp2_region ?_)
      | (refine wp1_region ?_)
      | (refine wp2_cond fun X Y hX hY => ?_)
      | (refine wp1_cond fun X Y hX hY => ?_)
      | (refine condK_of (fun c => ?_) (fun c => ?_) <;> (try simp [-List.length_eq_zero_iff] at c))
      | (refine guard1_or (fun c => ?_) (fun c => ?_) <;> (have cc := c) <;> (try simp [-List.length_eq_zero_iff] at cc) <;> (try simp (disch := omega) [t0, t1, c]))
      | (refine callT_fl (szI_ok _ _ ?_ ?_ ?_) (by simp [St.args, St.arg, t0, t1] <;> first | rfl | ((repeat' first | rfl | apply And.intro); done)) (by first | (simp [RV.flat, RV.flats, T.flat]; done) | ((repeat' first | exact flat_intRow _ | exact flat_boolRow _ | exact trivial | constructor | unfold RV.flat | unfold RV.flats); done)) (by simp [mutsOf]) ?_; omega; omega; omega)
      | (refine callT_fl (szI_no _ _ ?_ ?_ ?_) (by simp [St.args, St.arg, t0, t1] <;> first | rfl | ((repeat' first | rfl | apply And.intro); done)) (by first | (simp [RV.flat, RV.flats, T.flat]; done) | ((repeat' first | exact flat_intRow _ | exact flat_boolRow _ | exact trivial | constructor | unfold RV.flat | unfold RV.flats); done)) (by simp [mutsOf]) ?_; omega; omega; omega)
      | (simp (disch := omega) [t0, t1]))
    all_goals try (simp [t0, t1, Back]; done)
  all_goals first
    | (have hs : left < lenR r := by (unfold lenR; omega)
       simp [Back, leave, hs]; done)
    | (have hs : ¬ left < lenR r := by (unfold lenR; omega)
       simp [Back, leave, hs]
       unfold lenR
       omega)
/-- The code of laws.szTurnCostS. -/
def k61 : Code1 :=
  (.seq
    (.region [] false ([]) [
      ⟨some 4, Op.assign (Operand.const (Value.int IntKind.i64 0)), none⟩])
    (.seq
      (.region [] false ([]) [
        ⟨some 5, Op.move (Operand.tmp 1), none⟩,
        ⟨some 6, Op.move (Operand.tmp 0), none⟩,
        ⟨some 7, Op.call { callee := Callee.builtin Builtin.len, args := #[Operand.tmp 6], argTypes := #[53] }, none⟩,
        ⟨some 8, Op.binOp BinOp.sub 3 (Operand.tmp 5) (Operand.tmp 7) 3, none⟩,
        ⟨some 1, Op.assign (Operand.tmp 8), none⟩])
      (.seq
        (.seq
          (.region [] false ([]) [
            ⟨some 9, Op.move (Operand.tmp 1), none⟩,
            ⟨some 10, Op.binOp BinOp.lss 3 (Operand.tmp 9) (Operand.const (Value.int IntKind.i64 0)) 3, none⟩])
          (.cond (Operand.tmp 10)
            (.seq
              (.region [] false ([]) [
                ⟨some 4, Op.assign (Operand.const (Value.int IntKind.i64 (-1))), none⟩])
              .ret)
            .skip))
        (.seq
          (.region [] false ([]) [
            ⟨some 11, Op.move (Operand.tmp 1), none⟩,
            ⟨some 4, Op.assign (Operand.tmp 11), none⟩])
          .ret))))
theorem szC (l : List Tc) (left : Int) (g1 : l.length ≤ 9223372036854775807) (h1 : 0 ≤ left) (h2 : left < 1152921504606846976) :
    CallsF Try.prog 61 [.val (recs encC l), .val (.v (.int .i64 left))] (.t (.v (.int .i64 (leave left l.length)))) [] := by
  refine callsF_of_wp1 (fn := Try.f61) (k := k61) (fun _ => []) mixed (by kernel_rfl) rfl (by kernel_rfl) (by kernel_rfl) (by kernel_rfl) rfl (by simp [Try.f61]) (by simp [Arg.like]) ?_
  generalize hst : St.enter [.val (recs encC l), .val (.v (.int .i64 left))] = st0
  have t0 : st0.tm 0 = .t (recs encC l) := by rw [← hst]; rfl
  have t1 : st0.tm 1 = .t (.v (.int .i64 left)) := by rw [← hst]; rfl
  clear hst
  unfold k61
  by_cases e : left < (l.length : Int)
  · repeat' (first
      | (refine wp2_seq fun K hK => ?_)
      | (refine wp1_seq fun K hK => ?_)
      | (refine M_cons fun K hK => ?_)
      | (refine hK _ ?_; clear hK K)
      | (clear hK K; refine hK _ ?_; clear hK K)
      | (clear hK K; clear hK K; refine hK _ ?_; clear hK K)
      | (clear hK K; clear hK K; clear hK K; refine hK _ ?_; clear hK K)
      | (refine hX _ ?_; clear hX hY X Y)
      | (refine hY _ ?_; clear hX hY X Y)
      | (refine wp2_block ?_)
      | (refine wp1_block ?_)
      | (refine wp2_region ?_)
      | (refine wp1_region ?_)
      | (refine wp2_cond fun X Y hX hY => ?_)
      | (refine wp1_cond fun X Y hX hY => ?_)
      | (refine condK_of (fun c => ?_) (fun c => ?_) <;> (try simp [-List.length_eq_zero_iff] at c))
      | (refine guard1_or (fun c => ?_) (fun c => ?_) <;> (have cc := c) <;> (try simp [-List.length_eq_zero_iff] at cc) <;> (try simp (disch := omega) [t0, t1, leave, e, c]))
      | (simp (disch := omega) [t0, t1, leave, e]))
    all_goals try (simp [t0, t1, leave, e, Back]; done)
    all_goals omega
  · repeat' (first
      | (refine wp2_seq fun K hK => ?_)
      | (refine wp1_seq fun K hK => ?_)
      | (refine M_cons fun K hK => ?_)
      | (refine hK _ ?_; clear hK K)
      | (clear hK K; refine hK _ ?_; clear hK K)
      | (clear hK K; clear hK K; refine hK _ ?_; clear hK K)
      | (clear hK K; clear hK K; clear hK K; refine hK _ ?_; clear hK K)
      | (refine hX _ ?_; clear hX hY X Y)
      | (refine hY _ ?_; clear hX hY X Y)
      | (refine wp2_block ?_)
      | (refine wp1_block ?_)
      | (refine wp2_region ?_)
      | (refine wp1_region ?_)
      | (refine wp2_cond fun X Y hX hY => ?_)
      | (refine wp1_cond fun X Y hX hY => ?_)
      | (refine condK_of (fun c => ?_) (fun c => ?_) <;> (try simp [-List.length_eq_zero_iff] at c))
      | (refine guard1_or (fun c => ?_) (fun c => ?_) <;> (have cc := c) <;> (try simp [-List.length_eq_zero_iff] at cc) <;> (try simp (disch := omega) [t0, t1, leave, e, c]))
      | (simp (disch := omega) [t0, t1, leave, e]))
    all_goals try (simp [t0, t1, leave, e, Back]; done)
    all_goals omega
/-- The code of laws.szWayS. -/
def k59 : Code1 :=
  (.seq
    (.region [] false ([]) [
      ⟨some 4, Op.assign (Operand.const (Value.int IntKind.i64 0)), none⟩])
    (.seq
      (.region [] false ([]) [
        ⟨some 6, Op.move (Operand.tmp 1), none⟩,
        ⟨some 7, Op.move (Operand.tmp 0), none⟩,
        ⟨some 8, Op.call { callee := Callee.builtin Builtin.len, args := #[Operand.tmp 7], argTypes := #[51] }, none⟩,
        ⟨some 9, Op.binOp BinOp.sub 3 (Operand.tmp 6) (Operand.tmp 8) 3, none⟩,
        ⟨some 1, Op.assign (Operand.tmp 9), none⟩])
      (.seq
        (.seq
          (.region [] false ([]) [
            ⟨some 10, Op.move (Operand.tmp 1), none⟩,
            ⟨some 11, Op.binOp BinOp.lss 3 (Operand.tmp 10) (Operand.const (Value.int IntKind.i64 0)) 3, none⟩])
          (.cond (Operand.tmp 11)
            (.seq
              (.region [] false ([]) [
                ⟨some 4, Op.assign (Operand.const (Value.int IntKind.i64 (-1))), none⟩])
              .ret)
            .skip))
        (.seq
          (.seq
            (.region [] false ([]) [
              ⟨some 5, Op.assign (Operand.const (Value.int IntKind.i64 0)), none⟩])
            (.block 0
              (.loop
                (.seq
                  (.seq
                    (.region [] false ([]) [
                      ⟨some 12, Op.move (Operand.tmp 5), none⟩,
                      ⟨some 13, Op.move (Operand.tmp 0), none⟩,
                      ⟨some 14, Op.call { callee := Callee.builtin Builtin.len, args := #[Operand.tmp 13], argTypes := #[51] }, none⟩,
                      ⟨some 15, Op.binOp BinOp.lss 3 (Operand.tmp 12) (Operand.tmp 14) 3, none⟩])
                    (.cond (Operand.tmp 15)
                      .skip
                      (.exit 0)))
                  (.seq
                    (.block 1
                      (.seq
                        (.region [23] false ([]) [
                          ⟨some 18, Op.move (Operand.tmp 0), none⟩,
                          ⟨some 19, Op.move (Operand.tmp 5), none⟩,
                          ⟨some 20, Op.indexAddr 51 (Operand.tmp 18) (Operand.tmp 19), none⟩,
                          ⟨some 21, Op.load 111 (Operand.tmp 20), none⟩,
                          ⟨some 22, Op.move (Operand.tmp 1), none⟩,
                          ⟨some 23, Op.call { callee := Callee.value (Operand.func 76), args := #[Operand.tmp 21, Operand.tmp 22], argTypes := #[111, 3] }, none⟩,
                          ⟨some 1, Op.assign (Operand.tmp 23), none⟩])
                        (.seq
                          (.region [] false ([]) [
                            ⟨some 24, Op.move (Operand.tmp 1), none⟩,
                            ⟨some 25, Op.binOp BinOp.lss 3 (Operand.tmp 24) (Operand.const (Value.int IntKind.i64 0)) 3, none⟩])
                          (.cond (Operand.tmp 25)
                            (.seq
                              (.region [] false ([]) [
                                ⟨some 4, Op.assign (Operand.const (Value.int IntKind.i64 (-1))), none⟩])
                              .ret)
                            .skip))))
                    (.region [] false ([]) [
                      ⟨some 16, Op.move (Operand.tmp 5), none⟩,
                      ⟨some 17, Op.binOp BinOp.add 3 (Operand.tmp 16) (Operand.const (Value.int IntKind.i64 1)) 3, none⟩,
                      ⟨some 5, Op.assign (Operand.tmp 17), none⟩]))))))
          (.seq
            (.region [] false ([]) [
              ⟨some 26, Op.move (Operand.tmp 1), none⟩,
              ⟨some 4, Op.assign (Operand.tmp 26), none⟩])
            .ret)))))
theorem szWs (l : List Way) (left : Int) (g0 : l.length ≤ 9223372036854775807) (g : ∀ i : Nat, i < l.length → (nth l i).nodes.length ≤ 9223372036854775807 ∧ (nth l i).lens.length ≤ 9223372036854775807) (h1 : 0 ≤ left) (h2 : left < 1152921504606846976) :
    CallsF Try.prog 59 [.val (recs encW l), .val (.v (.int .i64 left))] (.t (.v (.int .i64 (leave left (l.length + sumL lenW l l.length))))) [] := by
  have nn : ∀ w : Way, 0 ≤ lenW w := fun w => by unfold lenW; omega
  refine callsF_of_wp1 (fn := Try.f59) (k := k59) (fun _ => []) mixed (by kernel_rfl) rfl (by kernel_rfl) (by kernel_rfl) (by kernel_rfl) rfl (by simp [Try.f59]) (by simp [Arg.like]) ?_
  generalize hst : St.enter [.val (recs encW l), .val (.v (.int .i64 left))] = st0
  have t0 : st0.tm 0 = .t (recs encW l) := by rw [← hst]; rfl
  have t1 : st0.tm 1 = .t (.v (.int .i64 left)) := by rw [← hst]; rfl
  clear hst
  unfold k59
  by_cases e : left < (l.length : Int)
  · have := sumL_nn (l := l) nn l.length
    have e2 : leave left (l.length + sumL lenW l l.length) = -1 := if_pos (by omega)
    repeat' (first
      | (refine wp2_seq fun K hK => ?_)
      | (refine wp1_seq fun K hK => ?_)
      | (refine M_cons fun K hK => ?_)
      | (refine hK _ ?_; clear hK K)
      | (clear hK K; refine hK _ ?_; clear hK K)
      | (clear hK K; clear hK K; refine hK _ ?_; clear hK K)
      | (clear hK K; clear hK K; clear hK K; refine hK _ ?_; clear hK K)
      | (refine hX _ ?_; clear hX hY X Y)
      | (refine hY _ ?_; clear hX hY X Y)
      | (refine wp2_block ?_)
      | (refine wp1_block ?_)
      | (refine wp2_region ?_)
      | (refine wp1_region ?_)
      | (refine wp2_cond fun X Y hX hY => ?_)
      | (refine wp1_cond fun X Y hX hY => ?_)
      | (refine condK_of (fun c => ?_) (fun c => ?_) <;> (try simp [-List.length_eq_zero_iff] at c))
      | (refine guard1_or (fun c => ?_) (fun c => ?_) <;> (have cc := c) <;> (try simp [-List.length_eq_zero_iff] at cc) <;> (try simp (disch := omega) [t0, t1, e2, c]))
      | (simp (disch := omega) [t0, t1, e2]))
    all_goals try (simp [t0, t1, e2, Back]; done)
    all_goals omega
  · repeat' (first
      | (refine wp2_seq fun K hK => ?_)
      | (refine wp1_seq fun K hK => ?_)
      | (refine M_cons fun K hK => ?_)
      | (refine hK _ ?_; clear hK K)
      | (clear hK K; refine hK _ ?_; clear hK K)
      | (clear hK K; clear hK K; refine hK _ ?_; clear hK K)
      | (clear hK K; clear hK K; clear hK K; refine hK _ ?_; clear hK K)
      | (refine hX _ ?_; clear hX hY X Y)
      | (refine hY _ ?_; clear hX hY X Y)
      | (refine wp2_block ?_)
      | (refine wp1_block ?_)
      | (refine wp2_region ?_)
      | (refine wp1_region ?_)
      | (refine wp2_cond fun X Y hX hY => ?_)
      | (refine wp1_cond fun X Y hX hY => ?_)
      | (refine condK_of (fun c => ?_) (fun c => ?_) <;> (try simp [-List.length_eq_zero_iff] at c))
      | (refine guard1_or (fun c => ?_) (fun c => ?_) <;> (have cc := c) <;> (try simp [-List.length_eq_zero_iff] at cc) <;> (try simp (disch := omega) [t0, t1, c]))
      | (simp (disch := omega) [t0, t1]))
    all_goals try (simp [t0, t1, Back]; done)
    all_goals first | omega | skip
    have hJ : ∀ s, s.tm 1 = .t (.v (.int .i64 (leave left (l.length + sumL lenW l l.length)))) → K s := by
      intro s s1
      repeat' (first
        | (refine wp2_seq fun K hK => ?_)
        | (refine wp1_seq fun K hK => ?_)
        | (refine M_cons fun K hK => ?_)
        | (refine hK _ ?_; clear hK K)
        | (clear hK K; refine hK _ ?_; clear hK K)
        | (clear hK K; clear hK K; refine hK _ ?_; clear hK K)
        | (clear hK K; clear hK K; clear hK K; refine hK _ ?_; clear hK K)
        | (refine hX _ ?_; clear hX hY X Y)
        | (refine hY _ ?_; clear hX hY X Y)
        | (refine wp2_block ?_)
        | (refine wp1_block ?_)
        | (refine wp2_region ?_)
        | (refine wp1_region ?_)
        | (refine wp2_cond fun X Y hX hY => ?_)
        | (refine wp1_cond fun X Y hX hY => ?_)
        | (refine condK_of (fun c => ?_) (fun c => ?_) <;> (try simp [-List.length_eq_zero_iff] at c))
        | (refine guard1_or (fun c => ?_) (fun c => ?_) <;> (have cc := c) <;> (try simp [-List.length_eq_zero_iff] at cc) <;> (try simp (disch := omega) [s1, c]))
        | (simp (disch := omega) [s1]))
      all_goals try (simp [s1, Back]; done)
    clear hK
    refine wp1_loop (fun m s => ∃ k : Nat, s.tm 0 = .t (recs encW l) ∧ s.tm 1 = .t (.v (.int .i64 (left - l.length - sumL lenW l k))) ∧ s.tm 5 = .t (.v (.int .i64 k)) ∧ k ≤ l.length ∧ m = l.length - k ∧ 0 ≤ left - l.length - sumL lenW l k) l.length ?_ ?_
    · refine ⟨0, ?_⟩
      simp [t0, sumL]
      omega
    · rintro m s ⟨k, s0, s1, s5, hk, rfl, hq⟩ K' hK'
      by_cases hlt : k < l.length
      · have q := sumL_nn (l := l) nn k
        obtain ⟨gk1, gk2⟩ := g k hlt
        have sm := sumL_mono (l := l) nn (show k + 1 ≤ l.length by omega)
        have e3 : sumL lenW l (k + 1) = sumL lenW l k + lenW (nth l k) := rfl
        have n3 := nn (nth l k)
        by_cases e4 : left - l.length - sumL lenW l k < lenW (nth l k)
        · have e5 : leave (left - l.length - sumL lenW l k) (lenW (nth l k)) = -1 := if_pos e4
          have e2 : leave left (l.length + sumL lenW l l.length) = -1 := if_pos (by omega)
          repeat' (first
            | (refine wp2_seq fun K hK => ?_)
            | (refine wp1_seq fun K hK => ?_)
            | (refine M_cons fun K hK => ?_)
            | (refine hK _ ?_; clear hK K)
            | (clear hK K; refine hK _ ?_; clear hK K)
            | (clear hK K; clear hK K; refine hK _ ?_; clear hK K)
            | (clear hK K; clear hK K; clear hK K; refine hK _ ?_; clear hK K)
            | (refine hX _ ?_; clear hX hY X Y)
            | (refine hY _ ?_; clear hX hY X Y)
            | (refine wp2_block ?_)
            | (refine wp1_block ?_)
            | (refine wp2_region ?_)
            | (refine wp1_region ?_)
            | (refine wp2_cond fun X Y hX hY => ?_)
            | (refine wp1_cond fun X Y hX hY => ?_)
            | (refine condK_of (fun c => ?_) (fun c => ?_) <;> (try simp [-List.length_eq_zero_iff] at c))
            | (refine guard1_or (fun c => ?_) (fun c => ?_) <;> (have cc := c) <;> (try simp [-List.length_eq_zero_iff] at cc) <;> (try simp (disch := omega) [s0, s1, s5, encW, e5, c]))
            | (refine callT_fl (szW _ _ ?_ ?_ ?_ ?_) (by simp [St.args, St.arg, s0, s1, s5, encW, e5] <;> first | rfl | ((repeat' first | rfl | apply And.intro); done)) (by first | (simp [RV.flat, RV.flats, T.flat]; done) | ((repeat' first | exact flat_intRow _ | exact flat_boolRow _ | exact trivial | constructor | unfold RV.flat | unfold RV.flats); done)) (by simp [mutsOf]) ?_; omega; omega; omega; omega)
            | (simp (disch := omega) [s0, s1, s5, encW, e5]))
          all_goals try (simp [s0, s1, s5, encW, e5, Back]; done)
          all_goals first
            | omega
            | (simp [Back, e2]; done)
            | skip
        · have e5 : leave (left - l.length - sumL lenW l k) (lenW (nth l k)) = left - l.length - sumL lenW l k - lenW (nth l k) := if_neg e4
          repeat' (first
            | (refine wp2_seq fun K hK => ?_)
            | (refine wp1_seq fun K hK => ?_)
            | (refine M_cons fun K hK => ?_)
            | (refine hK _ ?_; clear hK K)
            | (clear hK K; refine hK _ ?_; clear hK K)
            | (clear hK K; clear hK K; refine hK _ ?_; clear hK K)
            | (clear hK K; clear hK K; clear hK K; refine hK _ ?_; clear hK K)
            | (refine hX _ ?_; clear hX hY X Y)
            | (refine hY _ ?_; clear hX hY X Y)
            | (refine wp2_block ?_)
            | (refine wp1_block ?_)
            | (refine wp2_region ?_)
            | (refine wp1_region ?_)
            | (refine wp2_cond fun X Y hX hY => ?_)
            | (refine wp1_cond fun X Y hX hY => ?_)
            | (refine condK_of (fun c => ?_) (fun c => ?_) <;> (try simp [-List.length_eq_zero_iff] at c))
            | (refine guard1_or (fun c => ?_) (fun c => ?_) <;> (have cc := c) <;> (try simp [-List.length_eq_zero_iff] at cc) <;> (try simp (disch := omega) [s0, s1, s5, encW, e5, c]))
            | (refine callT_fl (szW _ _ ?_ ?_ ?_ ?_) (by simp [St.args, St.arg, s0, s1, s5, encW, e5] <;> first | rfl | ((repeat' first | rfl | apply And.intro); done)) (by first | (simp [RV.flat, RV.flats, T.flat]; done) | ((repeat' first | exact flat_intRow _ | exact flat_boolRow _ | exact trivial | constructor | unfold RV.flat | unfold RV.flats); done)) (by simp [mutsOf]) ?_; omega; omega; omega; omega)
            | (simp (disch := omega) [s0, s1, s5, encW, e5]))
          all_goals try (simp [s0, s1, s5, encW, e5, Back]; done)
          all_goals first
            | omega
            | (refine hK' (l.length - (k + 1)) _ (by omega) ⟨k + 1, ?_⟩
               simp [s0, s5, e3]
               omega)
            | skip
      · have hkl : k = l.length := by omega
        subst hkl
        repeat' (first
          | (refine wp2_seq fun K hK => ?_)
          | (refine wp1_seq fun K hK => ?_)
          | (refine M_cons fun K hK => ?_)
          | (refine hK _ ?_; clear hK K)
          | (clear hK K; refine hK _ ?_; clear hK K)
          | (clear hK K; clear hK K; refine hK _ ?_; clear hK K)
          | (clear hK K; clear hK K; clear hK K; refine hK _ ?_; clear hK K)
          | (refine hX _ ?_; clear hX hY X Y)
          | (refine hY _ ?_; clear hX hY X Y)
          | (refine wp2_block ?_)
          | (refine wp1_block ?_)
          | (refine wp2_region ?_)
          | (refine wp1_region ?_)
          | (refine wp2_cond fun X Y hX hY => ?_)
          | (refine wp1_cond fun X Y hX hY => ?_)
          | (refine condK_of (fun c => ?_) (fun c => ?_) <;> (try simp [-List.length_eq_zero_iff] at c))
          | (refine guard1_or (fun c => ?_) (fun c => ?_) <;> (have cc := c) <;> (try simp [-List.length_eq_zero_iff] at cc) <;> (try simp (disch := omega) [s0, s1, s5, c]))
          | (simp (disch := omega) [s0, s1, s5]))
        all_goals try (simp [s0, s1, s5, Back]; done)
        all_goals first
          | omega
          | (refine hJ _ ?_
             simp [s1, leave]
             rw [if_neg (by omega)]
             omega)
end Cal

set_option linter.unusedSimpArgs false
set_option linter.unusedVariables false
namespace Cal
open Go Go.Proofs
set_option maxRecDepth 100000
/-- The code of laws.szRelationS. -/
def k60 : Code1 :=
  (.seq
    (.region [] false ([]) [
      ⟨some 4, Op.assign (Operand.const (Value.int IntKind.i64 0)), none⟩])
    (.seq
      (.region [] false ([]) [
        ⟨some 6, Op.move (Operand.tmp 1), none⟩,
        ⟨some 7, Op.move (Operand.tmp 0), none⟩,
        ⟨some 8, Op.call { callee := Callee.builtin Builtin.len, args := #[Operand.tmp 7], argTypes := #[52] }, none⟩,
        ⟨some 9, Op.binOp BinOp.sub 3 (Operand.tmp 6) (Operand.tmp 8) 3, none⟩,
        ⟨some 1, Op.assign (Operand.tmp 9), none⟩])
      (.seq
        (.seq
          (.region [] false ([]) [
            ⟨some 10, Op.move (Operand.tmp 1), none⟩,
            ⟨some 11, Op.binOp BinOp.lss 3 (Operand.tmp 10) (Operand.const (Value.int IntKind.i64 0)) 3, none⟩])
          (.cond (Operand.tmp 11)
            (.seq
              (.region [] false ([]) [
                ⟨some 4, Op.assign (Operand.const (Value.int IntKind.i64 (-1))), none⟩])
              .ret)
            .skip))
        (.seq
          (.seq
            (.region [] false ([]) [
              ⟨some 5, Op.assign (Operand.const (Value.int IntKind.i64 0)), none⟩])
            (.block 0
              (.loop
                (.seq
                  (.seq
                    (.region [] false ([]) [
                      ⟨some 12, Op.move (Operand.tmp 5), none⟩,
                      ⟨some 13, Op.move (Operand.tmp 0), none⟩,
                      ⟨some 14, Op.call { callee := Callee.builtin Builtin.len, args := #[Operand.tmp 13], argTypes := #[52] }, none⟩,
                      ⟨some 15, Op.binOp BinOp.lss 3 (Operand.tmp 12) (Operand.tmp 14) 3, none⟩])
                    (.cond (Operand.tmp 15)
                      .skip
                      (.exit 0)))
                  (.seq
                    (.block 1
                      (.seq
                        (.region [23] false ([]) [
                          ⟨some 18, Op.move (Operand.tmp 0), none⟩,
                          ⟨some 19, Op.move (Operand.tmp 5), none⟩,
                          ⟨some 20, Op.indexAddr 52 (Operand.tmp 18) (Operand.tmp 19), none⟩,
                          ⟨some 21, Op.load 113 (Operand.tmp 20), none⟩,
                          ⟨some 22, Op.move (Operand.tmp 1), none⟩,
                          ⟨some 23, Op.call { callee := Callee.value (Operand.func 77), args := #[Operand.tmp 21, Operand.tmp 22], argTypes := #[113, 3] }, none⟩,
                          ⟨some 1, Op.assign (Operand.tmp 23), none⟩])
                        (.seq
                          (.region [] false ([]) [
                            ⟨some 24, Op.move (Operand.tmp 1), none⟩,
                            ⟨some 25, Op.binOp BinOp.lss 3 (Operand.tmp 24) (Operand.const (Value.int IntKind.i64 0)) 3, none⟩])
                          (.cond (Operand.tmp 25)
                            (.seq
                              (.region [] false ([]) [
                                ⟨some 4, Op.assign (Operand.const (Value.int IntKind.i64 (-1))), none⟩])
                              .ret)
                            .skip))))
                    (.region [] false ([]) [
                      ⟨some 16, Op.move (Operand.tmp 5), none⟩,
                      ⟨some 17, Op.binOp BinOp.add 3 (Operand.tmp 16) (Operand.const (Value.int IntKind.i64 1)) 3, none⟩,
                      ⟨some 5, Op.assign (Operand.tmp 17), none⟩]))))))
          (.seq
            (.region [] false ([]) [
              ⟨some 26, Op.move (Operand.tmp 1), none⟩,
              ⟨some 4, Op.assign (Operand.tmp 26), none⟩])
            .ret)))))
theorem szRs (l : List Rln) (left : Int) (g0 : l.length ≤ 9223372036854775807) (g : ∀ i : Nat, i < l.length → (nth l i).via.length ≤ 9223372036854775807) (h1 : 0 ≤ left) (h2 : left < 1152921504606846976) :
    CallsF Try.prog 60 [.val (recs encR l), .val (.v (.int .i64 left))] (.t (.v (.int .i64 (leave left (l.length + sumL lenR l l.length))))) [] := by
  have nn : ∀ w : Rln, 0 ≤ lenR w := fun w => by unfold lenR; omega
  refine callsF_of_wp1 (fn := Try.f60) (k := k60) (fun _ => []) mixed (by kernel_rfl) rfl (by kernel_rfl) (by kernel_rfl) (by kernel_rfl) rfl (by simp [Try.f60]) (by simp [Arg.like]) ?_
  generalize hst : St.enter [.val (recs encR l), .val (.v (.int .i64 left))] = st0
  have t0 : st0.tm 0 = .t (recs encR l) := by rw [← hst]; rfl
  have t1 : st0.tm 1 = .t (.v (.int .i64 left)) := by rw [← hst]; rfl
  clear hst
  unfold k60
  by_cases e : left < (l.length : Int)
  · have := sumL_nn (l := l) nn l.length
    have e2 : leave left (l.length + sumL lenR l l.length) = -1 := if_pos (by omega)
    repeat' (first
      | (refine wp2_seq fun K hK => ?_)
      | (refine wp1_seq fun K hK => ?_)
      | (refine M_cons fun K hK => ?_)
      | (refine hK _ ?_; clear hK K)
      | (clear hK K; refine hK _ ?_; clear hK K)
      | (clear hK K; clear hK K; refine hK _ ?_; clear hK K)
      | (clear hK K; clear hK K; clear hK K; refine hK _ ?_; clear hK K)
      | (refine hX _ ?_; clear hX hY X Y)
      | (refine hY _ ?_; clear hX hY X Y)
      | (refine wp2_block ?_)
      | (refine wp1_block ?_)
      | (refine wp2_region ?_)
      | (refine wp1_region ?_)
      | (refine wp2_cond fun X Y hX hY => ?_)
      | (refine wp1_cond fun X Y hX hY => ?_)
      | (refine condK_of (fun c => ?_) (fun c => ?_) <;> (try simp [-List.length_eq_zero_iff] at c))
      | (refine guard1_or (fun c => ?_) (fun c => ?_) <;> (have cc := c) <;> (try simp [-List.length_eq_zero_iff] at cc) <;> (try simp (disch := omega) [t0, t1, e2, c]))
      | (simp (disch := omega) [t0, t1, e2]))
    all_goals try (simp [t0, t1, e2, Back]; done)
    all_goals omega
  · repeat' (first
      | (refine wp2_seq fun K hK => ?_)
      | (refine wp1_seq fun K hK => ?_)
      | (refine M_cons fun K hK => ?_)
      | (refine hK _ ?_; clear hK K)
      | (clear hK K; refine hK _ ?_; clear hK K)
      | (clear hK K; clear hK K; refine hK _ ?_; clear hK K)
      | (clear hK K; clear hK K; clear hK K; refine hK _ ?_; clear hK K)
      | (refine hX _ ?_; clear hX hY X Y)
      | (refine hY _ ?_; clear hX hY X Y)
      | (refine wp2_block ?_)
      | (refine wp1_block ?_)
      | (refine wp2_region ?_)
      | (refine wp1_region ?_)
      | (refine wp2_cond fun X Y hX hY => ?_)
      | (refine wp1_cond fun X Y hX hY => ?_)
      | (refine condK_of (fun c => ?_) (fun c => ?_) <;> (try simp [-List.length_eq_zero_iff] at c))
      | (refine guard1_or (fun c => ?_) (fun c => ?_) <;> (have cc := c) <;> (try simp [-List.length_eq_zero_iff] at cc) <;> (try simp (disch := omega) [t0, t1, c]))
      | (simp (disch := omega) [t0, t1]))
    all_goals try (simp [t0, t1, Back]; done)
    all_goals first | omega | skip
    have hJ : ∀ s, s.tm 1 = .t (.v (.int .i64 (leave left (l.length + sumL lenR l l.length)))) → K s := by
      intro s s1
      repeat' (first
        | (refine wp2_seq fun K hK => ?_)
        | (refine wp1_seq fun K hK => ?_)
        | (refine M_cons fun K hK => ?_)
        | (refine hK _ ?_; clear hK K)
        | (clear hK K; refine hK _ ?_; clear hK K)
        | (clear hK K; clear hK K; refine hK _ ?_; clear hK K)
        | (clear hK K; clear hK K; clear hK K; refine hK _ ?_; clear hK K)
        | (refine hX _ ?_; clear hX hY X Y)
        | (refine hY _ ?_; clear hX hY X Y)
        | (refine wp2_block ?_)
        | (refine wp1_block ?_)
        | (refine wp2_region ?_)
        | (refine wp1_region ?_)
        | (refine wp2_cond fun X Y hX hY => ?_)
        | (refine wp1_cond fun X Y hX hY => ?_)
        | (refine condK_of (fun c => ?_) (fun c => ?_) <;> (try simp [-List.length_eq_zero_iff] at c))
        | (refine guard1_or (fun c => ?_) (fun c => ?_) <;> (have cc := c) <;> (try simp [-List.length_eq_zero_iff] at cc) <;> (try simp (disch := omega) [s1, c]))
        | (simp (disch := omega) [s1]))
      all_goals try (simp [s1, Back]; done)
    clear hK
    refine wp1_loop (fun m s => ∃ k : Nat, s.tm 0 = .t (recs encR l) ∧ s.tm 1 = .t (.v (.int .i64 (left - l.length - sumL lenR l k))) ∧ s.tm 5 = .t (.v (.int .i64 k)) ∧ k ≤ l.length ∧ m = l.length - k ∧ 0 ≤ left - l.length - sumL lenR l k) l.length ?_ ?_
    · refine ⟨0, ?_⟩
      simp [t0, sumL]
      omega
    · rintro m s ⟨k, s0, s1, s5, hk, rfl, hq⟩ K' hK'
      by_cases hlt : k < l.length
      · have q := sumL_nn (l := l) nn k
        have gk1 := g k hlt
        have sm := sumL_mono (l := l) nn (show k + 1 ≤ l.length by omega)
        have e3 : sumL lenR l (k + 1) = sumL lenR l k + lenR (nth l k) := rfl
        have n3 := nn (nth l k)
        by_cases e4 : left - l.length - sumL lenR l k < lenR (nth l k)
        · have e5 : leave (left - l.length - sumL lenR l k) (lenR (nth l k)) = -1 := if_pos e4
          have e2 : leave left (l.length + sumL lenR l l.length) = -1 := if_pos (by omega)
          repeat' (first
            | (refine wp2_seq fun K hK => ?_)
            | (refine wp1_seq fun K hK => ?_)
            | (refine M_cons fun K hK => ?_)
            | (refine hK _ ?_; clear hK K)
            | (clear hK K; refine hK _ ?_; clear hK K)
            | (clear hK K; clear hK K; refine hK _ ?_; clear hK K)
            | (clear hK K; clear hK K; clear hK K; refine hK _ ?_; clear hK K)
            | (refine hX _ ?_; clear hX hY X Y)
            | (refine hY _ ?_; clear hX hY X Y)
            | (refine wp2_block ?_)
            | (refine wp1_block ?_)
            | (refine wp2_region ?_)
            | (refine wp1_region ?_)
            | (refine wp2_cond fun X Y hX hY => ?_)
            | (refine wp1_cond fun X Y hX hY => ?_)
            | (refine condK_of (fun c => ?_) (fun c => ?_) <;> (try simp [-List.length_eq_zero_iff] at c))
            | (refine guard1_or (fun c => ?_) (fun c => ?_) <;> (have cc := c) <;> (try simp [-List.length_eq_zero_iff] at cc) <;> (try simp (disch := omega) [s0, s1, s5, encR, e5, c]))
            | (refine callT_fl (szR _ _ ?_ ?_ ?_) (by simp [St.args, St.arg, s0, s1, s5, encR, e5] <;> first | rfl | ((repeat' first | rfl | apply And.intro); done)) (by first | (simp [RV.flat, RV.flats, T.flat]; done) | ((repeat' first | exact flat_intRow _ | exact flat_boolRow _ | exact trivial | constructor | unfold RV.flat | unfold RV.flats); done)) (by simp [mutsOf]) ?_; omega; omega; omega)
            | (simp (disch := omega) [s0, s1, s5, encR, e5]))
          all_goals try (simp [s0, s1, s5, encR, e5, Back]; done)
          all_goals first
            | omega
            | (simp [Back, e2]; done)
            | skip
        · have e5 : leave (left - l.length - sumL lenR l k) (lenR (nth l k)) = left - l.length - sumL lenR l k - lenR (nth l k) := if_neg e4
          repeat' (first
            | (refine wp2_seq fun K hK => ?_)
            | (refine wp1_seq fun K hK => ?_)
            | (refine M_cons fun K hK => ?_)
            | (refine hK _ ?_; clear hK K)
            | (clear hK K; refine hK _ ?_; clear hK K)
            | (clear hK K; clear hK K; refine hK _ ?_; clear hK K)
            | (clear hK K; clear hK K; clear hK K; refine hK _ ?_; clear hK K)
            | (refine hX _ ?_; clear hX hY X Y)
            | (refine hY _ ?_; clear hX hY X Y)
            | (refine wp2_block ?_)
            | (refine wp1_block ?_)
            | (refine wp2_region ?_)
            | (refine wp1_region ?_)
            | (refine wp2_cond fun X Y hX hY => ?_)
            | (refine wp1_cond fun X Y hX hY => ?_)
            | (refine condK_of (fun c => ?_) (fun c => ?_) <;> (try simp [-List.length_eq_zero_iff] at c))
            | (refine guard1_or (fun c => ?_) (fun c => ?_) <;> (have cc := c) <;> (try simp [-List.length_eq_zero_iff] at cc) <;> (try simp (disch := omega) [s0, s1, s5, encR, e5, c]))
            | (refine callT_fl (szR _ _ ?_ ?_ ?_) (by simp [St.args, St.arg, s0, s1, s5, encR, e5] <;> first | rfl | ((repeat' first | rfl | apply And.intro); done)) (by first | (simp [RV.flat, RV.flats, T.flat]; done) | ((repeat' first | exact flat_intRow _ | exact flat_boolRow _ | exact trivial | constructor | unfold RV.flat | unfold RV.flats); done)) (by simp [mutsOf]) ?_; omega; omega; omega)
            | (simp (disch := omega) [s0, s1, s5, encR, e5]))
          all_goals try (simp [s0, s1, s5, encR, e5, Back]; done)
          all_goals first
            | omega
            | (refine hK' (l.length - (k + 1)) _ (by omega) ⟨k + 1, ?_⟩
               simp [s0, s5, e3]
               omega)
            | skip
      · have hkl : k = l.length := by omega
        subst hkl
        repeat' (first
          | (refine wp2_seq fun K hK => ?_)
          | (refine wp1_seq fun K hK => ?_)
          | (refine M_cons fun K hK => ?_)
          | (refine hK _ ?_; clear hK K)
          | (clear hK K; refine hK _ ?_; clear hK K)
          | (clear hK K; clear hK K; refine hK _ ?_; clear hK K)
          | (clear hK K; clear hK K; clear hK K; refine hK _ ?_; clear hK K)
          | (refine hX _ ?_; clear hX hY X Y)
          | (refine hY _ ?_; clear hX hY X Y)
          | (refine wp2_block ?_)
          | (refine wp1_block ?_)
          | (refine wp2_region ?_)
          | (refine wp1_region ?_)
          | (refine wp2_cond fun X Y hX hY => ?_)
          | (refine wp1_cond fun X Y hX hY => ?_)
          | (refine condK_of (fun c => ?_) (fun c => ?_) <;> (try simp [-List.length_eq_zero_iff] at c))
          | (refine guard1_or (fun c => ?_) (fun c => ?_) <;> (have cc := c) <;> (try simp [-List.length_eq_zero_iff] at cc) <;> (try simp (disch := omega) [s0, s1, s5, c]))
          | (simp (disch := omega) [s0, s1, s5]))
        all_goals try (simp [s0, s1, s5, Back]; done)
        all_goals first
          | omega
          | (refine hJ _ ?_
             simp [s1, leave]
             rw [if_neg (by omega)]
             omega)
/-- All lists of a network are small enough for lengths. -/
structure smallN (n : Net) : Prop where
  nd : n.nodes.length ≤ 9223372036854775807
  w : n.ways.length ≤ 9223372036854775807
  r : n.rels.length ≤ 9223372036854775807
  t : n.tcs.length ≤ 9223372036854775807
  ww : ∀ i : Nat, i < n.ways.length → (nth n.ways i).nodes.length ≤ 9223372036854775807 ∧ (nth n.ways i).lens.length ≤ 9223372036854775807
  rv : ∀ i : Nat, i < n.rels.length → (nth n.rels i).via.length ≤ 9223372036854775807
def sizeW (n : Net) : Int := n.ways.length + sumL lenW n.ways n.ways.length
def sizeR (n : Net) : Int := n.rels.length + sumL lenR n.rels n.rels.length
def sumN (n : Net) : Int := n.nodes.length + sizeW n + sizeR n + n.tcs.length
/-- The code of laws.szNet. -/
def k36 : Code1 :=
  (.seq
    (.region [2] false ([]) [
      ⟨some 2, Op.box 55 (Operand.tmp 0), none⟩,
      ⟨some 4, Op.assign (Operand.const (Value.int IntKind.i64 0)), none⟩])
    (.seq
      (.region [8] false ([]) [
        ⟨some 5, Op.fieldAddr 55 (Operand.tmp 2) 0, none⟩,
        ⟨some 6, Op.load 22 (Operand.tmp 5), none⟩,
        ⟨some 7, Op.move (Operand.tmp 1), none⟩,
        ⟨some 8, Op.call { callee := Callee.value (Operand.func 41), args := #[Operand.tmp 6, Operand.tmp 7], argTypes := #[22, 3] }, none⟩,
        ⟨some 1, Op.assign (Operand.tmp 8), none⟩])
      (.seq
        (.seq
          (.region [] false ([]) [
            ⟨some 9, Op.move (Operand.tmp 1), none⟩,
            ⟨some 10, Op.binOp BinOp.lss 3 (Operand.tmp 9) (Operand.const (Value.int IntKind.i64 0)) 3, none⟩])
          (.cond (Operand.tmp 10)
            (.seq
              (.region [] false ([]) [
                ⟨some 4, Op.assign (Operand.const (Value.int IntKind.i64 (-1))), none⟩])
              .ret)
            .skip))
        (.seq
          (.region [14] false ([]) [
            ⟨some 11, Op.fieldAddr 55 (Operand.tmp 2) 1, none⟩,
            ⟨some 12, Op.load 51 (Operand.tmp 11), none⟩,
            ⟨some 13, Op.move (Operand.tmp 1), none⟩,
            ⟨some 14, Op.call { callee := Callee.value (Operand.func 59), args := #[Operand.tmp 12, Operand.tmp 13], argTypes := #[51, 3] }, none⟩,
            ⟨some 1, Op.assign (Operand.tmp 14), none⟩])
          (.seq
            (.seq
              (.region [] false ([]) [
                ⟨some 15, Op.move (Operand.tmp 1), none⟩,
                ⟨some 16, Op.binOp BinOp.lss 3 (Operand.tmp 15) (Operand.const (Value.int IntKind.i64 0)) 3, none⟩])
              (.cond (Operand.tmp 16)
                (.seq
                  (.region [] false ([]) [
                    ⟨some 4, Op.assign (Operand.const (Value.int IntKind.i64 (-1))), none⟩])
                  .ret)
                .skip))
            (.seq
              (.region [20] false ([]) [
                ⟨some 17, Op.fieldAddr 55 (Operand.tmp 2) 2, none⟩,
                ⟨some 18, Op.load 52 (Operand.tmp 17), none⟩,
                ⟨some 19, Op.move (Operand.tmp 1), none⟩,
                ⟨some 20, Op.call { callee := Callee.value (Operand.func 60), args := #[Operand.tmp 18, Operand.tmp 19], argTypes := #[52, 3] }, none⟩,
                ⟨some 1, Op.assign (Operand.tmp 20), none⟩])
              (.seq
                (.seq
                  (.region [] false ([]) [
                    ⟨some 21, Op.move (Operand.tmp 1), none⟩,
                    ⟨some 22, Op.binOp BinOp.lss 3 (Operand.tmp 21) (Operand.const (Value.int IntKind.i64 0)) 3, none⟩])
                  (.cond (Operand.tmp 22)
                    (.seq
                      (.region [] false ([]) [
                        ⟨some 4, Op.assign (Operand.const (Value.int IntKind.i64 (-1))), none⟩])
                      .ret)
                    .skip))
                (.seq
                  (.region [26] false ([]) [
                    ⟨some 23, Op.fieldAddr 55 (Operand.tmp 2) 3, none⟩,
                    ⟨some 24, Op.load 53 (Operand.tmp 23), none⟩,
                    ⟨some 25, Op.move (Operand.tmp 1), none⟩,
                    ⟨some 26, Op.call { callee := Callee.value (Operand.func 61), args := #[Operand.tmp 24, Operand.tmp 25], argTypes := #[53, 3] }, none⟩,
                    ⟨some 1, Op.assign (Operand.tmp 26), none⟩])
                  (.seq
                    (.seq
                      (.region [] false ([]) [
                        ⟨some 27, Op.move (Operand.tmp 1), none⟩,
                        ⟨some 28, Op.binOp BinOp.lss 3 (Operand.tmp 27) (Operand.const (Value.int IntKind.i64 0)) 3, none⟩])
                      (.cond (Operand.tmp 28)
                        (.seq
                          (.region [] false ([]) [
                            ⟨some 4, Op.assign (Operand.const (Value.int IntKind.i64 (-1))), none⟩])
                          .ret)
                        .skip))
                    (.seq
                      (.region [] false ([]) [
                        ⟨some 29, Op.move (Operand.tmp 1), none⟩,
                        ⟨some 4, Op.assign (Operand.tmp 29), none⟩])
                      .ret))))))))))
set_option maxHeartbeats 1000000 in
theorem szN (n : Net) (left : Int) (hg : smallN n) (h1 : 0 ≤ left) (h2 : left < 1152921504606846976) :
    CallsF Try.prog 36 [.agg (encN n), .val (.v (.int .i64 left))] (.t (.v (.int .i64 (leave left (sumN n))))) [] := by
  obtain ⟨g1, g2, g3, g4, g5, g6⟩ := hg
  have w0 : 0 ≤ sizeW n := by
    have := sumL_nn (l := n.ways) (f := lenW) (fun w => by unfold lenW; omega) n.ways.length
    unfold sizeW; omega
  have r0 : 0 ≤ sizeR n := by
    have := sumL_nn (l := n.rels) (f := lenR) (fun w => by unfold lenR; omega) n.rels.length
    unfold sizeR; omega
  have ew : (n.ways.length : Int) + sumL lenW n.ways n.ways.length = sizeW n := rfl
  have er : (n.rels.length : Int) + sumL lenR n.rels n.rels.length = sizeR n := rfl
  refine callsF_of_wp1 (fn := Try.f36) (k := k36) (fun _ => []) mixed (by kernel_rfl) rfl (by kernel_rfl) (by kernel_rfl) (by kernel_rfl) rfl (by simp [Try.f36]) (by simp [Arg.like]) ?_
  generalize hst : St.enter [.agg (encN n), .val (.v (.int .i64 left))] = st0
  have t0 : st0.tm 0 = .agg ((encN n) |>.map .t) := by rw [← hst]; rfl
  have t1 : st0.tm 1 = .t (.v (.int .i64 left)) := by rw [← hst]; rfl
  clear hst
  unfold k36
  simp [encN] at t0
  have szWn := fun left h1 h2 => szWs n.ways left g2 g5 h1 h2
  have szRn := fun left h1 h2 => szRs n.rels left g3 g6 h1 h2
  rw [ew] at szWn
  rw [er] at szRn
  by_cases e1 : left < (n.nodes.length : Int)
  · have e : leave left (sumN n) = -1 := if_pos (by unfold sumN; omega)
    repeat' (first
      | (refine wp2_seq fun K hK => ?_)
      | (refine wp1_seq fun K hK => ?_)
      | (refine M_cons fun K hK => ?_)
      | (refine hK _ ?_; clear hK K)
      | (clear hK K; refine hK _ ?_; clear hK K)
      | (clear hK K; clear hK K; refine hK _ ?_; clear hK K)
      | (clear hK K; clear hK K; clear hK K; refine hK _ ?_; clear hK K)
      | (refine hX _ ?_; clear hX hY X Y)
      | (refine hY _ ?_; clear hX hY X Y)
      | (refine wp2_block ?_)
      | (refine wp1_block ?_)
      | (refine wp2_region ?_)
      | (refine wp1_region ?_)
      | (refine wp2_cond fun X Y hX hY => ?_)
      | (refine wp1_cond fun X Y hX hY => ?_)
      | (refine condK_of (fun c => ?_) (fun c => ?_) <;> (try simp [-List.length_eq_zero_iff] at c))
      | (refine guard1_or (fun c => ?_) (fun c => ?_) <;> (have cc := c) <;> (try simp [-List.length_eq_zero_iff] at cc) <;> (try simp (disch := omega) [t0, t1, e, c]))
      | (refine callT_fl (szI_no _ _ ?_ ?_ ?_) (by simp [St.args, St.arg, t0, t1, e] <;> first | rfl | ((repeat' first | rfl | apply And.intro); done)) (by first | (simp [RV.flat, RV.flats, T.flat]; done) | ((repeat' first | exact flat_intRow _ | exact flat_boolRow _ | exact trivial | constructor | unfold RV.flat | unfold RV.flats); done)) (by simp [mutsOf]) ?_; omega; omega; omega)
      | (simp (disch := omega) [t0, t1, e]))
    all_goals try (simp [t0, t1, e, Back]; done)
    all_goals first | omega | skip
  · by_cases e2 : left - n.nodes.length < sizeW n
    · have e : leave left (sumN n) = -1 := if_pos (by unfold sumN; omega)
      have e3 : leave (left - n.nodes.length) (sizeW n) = -1 := if_pos e2
      repeat' (first
        | (refine wp2_seq fun K hK => ?_)
        | (refine wp1_seq fun K hK => ?_)
        | (refine M_cons fun K hK => ?_)
        | (refine hK _ ?_; clear hK K)
        | (clear hK K; refine hK _ ?_; clear hK K)
        | (clear hK K; clear hK K; refine hK _ ?_; clear hK K)
        | (clear hK K; clear hK K; clear hK K; refine hK _ ?_; clear hK K)
        | (refine hX _ ?_; clear hX hY X Y)
        | (refine hY _ ?_; clear hX hY X Y)
        | (refine wp2_block ?_)
        | (refine wp1_block ?_)
        | (refine wp2_region ?_)
        | (refine wp1_region ?_)
        | (refine wp2_cond fun X Y hX hY => ?_)
        | (refine wp1_cond fun X Y hX hY => ?_)
        | (refine condK_of (fun c => ?_) (fun c => ?_) <;> (try simp [-List.length_eq_zero_iff] at c))
        | (refine guard1_or (fun c => ?_) (fun c => ?_) <;> (have cc := c) <;> (try simp [-List.length_eq_zero_iff] at cc) <;> (try simp (disch := omega) [t0, t1, e, e3, c]))
        | (refine callT_fl (szI_ok _ _ ?_ ?_ ?_) (by simp [St.args, St.arg, t0, t1, e, e3] <;> first | rfl | ((repeat' first | rfl | apply And.intro); done)) (by first | (simp [RV.flat, RV.flats, T.flat]; done) | ((repeat' first | exact flat_intRow _ | exact flat_boolRow _ | exact trivial | constructor | unfold RV.flat | unfold RV.flats); done)) (by simp [mutsOf]) ?_; omega; omega; omega)
        | (refine callT_fl (szWn _ ?_ ?_) (by simp [St.args, St.arg, t0, t1, e, e3] <;> first | rfl | ((repeat' first | rfl | apply And.intro); done)) (by first | (simp [RV.flat, RV.flats, T.flat]; done) | ((repeat' first | exact flat_intRow _ | exact flat_boolRow _ | exact trivial | constructor | unfold RV.flat | unfold RV.flats); done)) (by simp [mutsOf]) ?_; omega; omega)
        | (simp (disch := omega) [t0, t1, e, e3]))
      all_goals try (simp [t0, t1, e, e3, Back]; done)
      all_goals first | omega | skip
    · have e3 : leave (left - n.nodes.length) (sizeW n) = left - n.nodes.length - sizeW n := if_neg e2
      by_cases e4 : left - n.nodes.length - sizeW n < sizeR n
      · have e : leave left (sumN n) = -1 := if_pos (by unfold sumN; omega)
        have e5 : leave (left - n.nodes.length - sizeW n) (sizeR n) = -1 := if_pos e4
        repeat' (first
          | (refine wp2_seq fun K hK => ?_)
          | (refine wp1_seq fun K hK => ?_)
          | (refine M_cons fun K hK => ?_)
          | (refine hK _ ?_; clear hK K)
          | (clear hK K; refine hK _ ?_; clear hK K)
          | (clear hK K; clear hK K; refine hK _ ?_; clear hK K)
          | (clear hK K; clear hK K; clear hK K; refine hK _ ?_; clear hK K)
          | (refine hX _ ?_; clear hX hY X Y)
          | (refine hY _ ?_; clear hX hY X Y)
          | (refine wp2_block ?_)
          | (refine wp1_block ?_)
          | (refine wp2_region ?_)
          | (refine wp1_region ?_)
          | (refine wp2_cond fun X Y hX hY => ?_)
          | (refine wp1_cond fun X Y hX hY => ?_)
          | (refine condK_of (fun c => ?_) (fun c => ?_) <;> (try simp [-List.length_eq_zero_iff] at c))
          | (refine guard1_or (fun c => ?_) (fun c => ?_) <;> (have cc := c) <;> (try simp [-List.length_eq_zero_iff] at cc) <;> (try simp (disch := omega) [t0, t1, e, e3, e5, c]))
          | (refine callT_fl (szI_ok _ _ ?_ ?_ ?_) (by simp [St.args, St.arg, t0, t1, e, e3, e5] <;> first | rfl | ((repeat' first | rfl | apply And.intro); done)) (by first | (simp [RV.flat, RV.flats, T.flat]; done) | ((repeat' first | exact flat_intRow _ | exact flat_boolRow _ | exact trivial | constructor | unfold RV.flat | unfold RV.flats); done)) (by simp [mutsOf]) ?_; omega; omega; omega)
          | (refine callT_fl (szWn _ ?_ ?_) (by simp [St.args, St.arg, t0, t1, e, e3, e5] <;> first | rfl | ((repeat' first | rfl | apply And.intro); done)) (by first | (simp [RV.flat, RV.flats, T.flat]; done) | ((repeat' first | exact flat_intRow _ | exact flat_boolRow _ | exact trivial | constructor | unfold RV.flat | unfold RV.flats); done)) (by simp [mutsOf]) ?_; omega; omega)
          | (refine callT_fl (szRn _ ?_ ?_) (by simp [St.args, St.arg, t0, t1, e, e3, e5] <;> first | rfl | ((repeat' first | rfl | apply And.intro); done)) (by first | (simp [RV.flat, RV.flats, T.flat]; done) | ((repeat' first | exact flat_intRow _ | exact flat_boolRow _ | exact trivial | constructor | unfold RV.flat | unfold RV.flats); done)) (by simp [mutsOf]) ?_; omega; omega)
          | (simp (disch := omega) [t0, t1, e, e3, e5]))
        all_goals try (simp [t0, t1, e, e3, e5, Back]; done)
        all_goals first | omega | skip
      · have e5 : leave (left - n.nodes.length - sizeW n) (sizeR n) = left - n.nodes.length - sizeW n - sizeR n := if_neg e4
        by_cases e6 : left - n.nodes.length - sizeW n - sizeR n < n.tcs.length
        · have e : leave left (sumN n) = -1 := if_pos (by unfold sumN; omega)
          have e7 : leave (left - n.nodes.length - sizeW n - sizeR n) n.tcs.length = -1 := if_pos e6
          repeat' (first
            | (refine wp2_seq fun K hK => ?_)
            | (refine wp1_seq fun K hK => ?_)
            | (refine M_cons fun K hK => ?_)
            | (refine hK _ ?_; clear hK K)
            | (clear hK K; refine hK _ ?_; clear hK K)
            | (clear hK K; clear hK K; refine hK _ ?_; clear hK K)
            | (clear hK K; clear hK K; clear hK K; refine hK _ ?_; clear hK K)
            | (refine hX _ ?_; clear hX hY X Y)
            | (refine hY _ ?_; clear hX hY X Y)
            | (refine wp2_block ?_)
            | (refine wp1_block ?_)
            | (refine wp2_region ?_)
            | (refine wp1_region ?_)
            | (refine wp2_cond fun X Y hX hY => ?_)
            | (refine wp1_cond fun X Y hX hY => ?_)
            | (refine condK_of (fun c => ?_) (fun c => ?_) <;> (try simp [-List.length_eq_zero_iff] at c))
            | (refine guard1_or (fun c => ?_) (fun c => ?_) <;> (have cc := c) <;> (try simp [-List.length_eq_zero_iff] at cc) <;> (try simp (disch := omega) [t0, t1, e, e3, e5, e7, c]))
            | (refine callT_fl (szI_ok _ _ ?_ ?_ ?_) (by simp [St.args, St.arg, t0, t1, e, e3, e5, e7] <;> first | rfl | ((repeat' first | rfl | apply And.intro); done)) (by first | (simp [RV.flat, RV.flats, T.flat]; done) | ((repeat' first | exact flat_intRow _ | exact flat_boolRow _ | exact trivial | constructor | unfold RV.flat | unfold RV.flats); done)) (by simp [mutsOf]) ?_; omega; omega; omega)
            | (refine callT_fl (szWn _ ?_ ?_) (by simp [St.args, St.arg, t0, t1, e, e3, e5, e7] <;> first | rfl | ((repeat' first | rfl | apply And.intro); done)) (by first | (simp [RV.flat, RV.flats, T.flat]; done) | ((repeat' first | exact flat_intRow _ | exact flat_boolRow _ | exact trivial | constructor | unfold RV.flat | unfold RV.flats); done)) (by simp [mutsOf]) ?_; omega; omega)
            | (refine callT_fl (szRn _ ?_ ?_) (by simp [St.args, St.arg, t0, t1, e, e3, e5, e7] <;> first | rfl | ((repeat' first | rfl | apply And.intro); done)) (by first | (simp [RV.flat, RV.flats, T.flat]; done) | ((repeat' first | exact flat_intRow _ | exact flat_boolRow _ | exact trivial | constructor | unfold RV.flat | unfold RV.flats); done)) (by simp [mutsOf]) ?_; omega; omega)
            | (refine callT_fl (szC _ _ ?_ ?_ ?_) (by simp [St.args, St.arg, t0, t1, e, e3, e5, e7] <;> first | rfl | ((repeat' first | rfl | apply And.intro); done)) (by first | (simp [RV.flat, RV.flats, T.flat]; done) | ((repeat' first | exact flat_intRow _ | exact flat_boolRow _ | exact trivial | constructor | unfold RV.flat | unfold RV.flats); done)) (by simp [mutsOf]) ?_; omega; omega; omega)
            | (simp (disch := omega) [t0, t1, e, e3, e5, e7]))
          all_goals try (simp [t0, t1, e, e3, e5, e7, Back]; done)
          all_goals first | omega | skip
        · have e : leave left (sumN n) = left - sumN n := if_neg (by unfold sumN; omega)
          have e8 : left - sumN n = left - n.nodes.length - sizeW n - sizeR n - n.tcs.length := by unfold sumN; omega
          have e7 : leave (left - n.nodes.length - sizeW n - sizeR n) n.tcs.length = left - n.nodes.length - sizeW n - sizeR n - n.tcs.length := if_neg e6
          repeat' (first
            | (refine wp2_seq fun K hK => ?_)
            | (refine wp1_seq fun K hK => ?_)
            | (refine M_cons fun K hK => ?_)
            | (refine hK _ ?_; clear hK K)
            | (clear hK K; refine hK _ ?_; clear hK K)
            | (clear hK K; clear hK K; refine hK _ ?_; clear hK K)
            | (clear hK K; clear hK K; clear hK K; refine hK _ ?_; clear hK K)
            | (refine hX _ ?_; clear hX hY X Y)
            | (refine hY _ ?_; clear hX hY X Y)
            | (refine wp2_block ?_)
            | (refine wp1_block ?_)
            | (refine wp2_region ?_)
            | (refine wp1_region ?_)
            | (refine wp2_cond fun X Y hX hY => ?_)
            | (refine wp1_cond fun X Y hX hY => ?_)
            | (refine condK_of (fun c => ?_) (fun c => ?_) <;> (try simp [-List.length_eq_zero_iff] at c))
            | (refine guard1_or (fun c => ?_) (fun c => ?_) <;> (have cc := c) <;> (try simp [-List.length_eq_zero_iff] at cc) <;> (try simp (disch := omega) [t0, t1, e, e8, e3, e5, e7, c]))
            | (refine callT_fl (szI_ok _ _ ?_ ?_ ?_) (by simp [St.args, St.arg, t0, t1, e, e8, e3, e5, e7] <;> first | rfl | ((repeat' first | rfl | apply And.intro); done)) (by first | (simp [RV.flat, RV.flats, T.flat]; done) | ((repeat' first | exact flat_intRow _ | exact flat_boolRow _ | exact trivial | constructor | unfold RV.flat | unfold RV.flats); done)) (by simp [mutsOf]) ?_; omega; omega; omega)
            | (refine callT_fl (szWn _ ?_ ?_) (by simp [St.args, St.arg, t0, t1, e, e8, e3, e5, e7] <;> first | rfl | ((repeat' first | rfl | apply And.intro); done)) (by first | (simp [RV.flat, RV.flats, T.flat]; done) | ((repeat' first | exact flat_intRow _ | exact flat_boolRow _ | exact trivial | constructor | unfold RV.flat | unfold RV.flats); done)) (by simp [mutsOf]) ?_; omega; omega)
            | (refine callT_fl (szRn _ ?_ ?_) (by simp [St.args, St.arg, t0, t1, e, e8, e3, e5, e7] <;> first | rfl | ((repeat' first | rfl | apply And.intro); done)) (by first | (simp [RV.flat, RV.flats, T.flat]; done) | ((repeat' first | exact flat_intRow _ | exact flat_boolRow _ | exact trivial | constructor | unfold RV.flat | unfold RV.flats); done)) (by simp [mutsOf]) ?_; omega; omega)
            | (refine callT_fl (szC _ _ ?_ ?_ ?_) (by simp [St.args, St.arg, t0, t1, e, e8, e3, e5, e7] <;> first | rfl | ((repeat' first | rfl | apply And.intro); done)) (by first | (simp [RV.flat, RV.flats, T.flat]; done) | ((repeat' first | exact flat_intRow _ | exact flat_boolRow _ | exact trivial | constructor | unfold RV.flat | unfold RV.flats); done)) (by simp [mutsOf]) ?_; omega; omega; omega)
            | (simp (disch := omega) [t0, t1, e, e8, e3, e5, e7]))
          all_goals try (simp [t0, t1, e, e8, e3, e5, e7, Back]; done)
          all_goals first | omega | skip
end Cal

set_option linter.unusedSimpArgs false
set_option linter.unusedVariables false
namespace Cal
open Go Go.Proofs
set_option maxRecDepth 100000
def zW : List T := [.v (.int .i64 0), .v (.bool false), .v (.slice none 0 0), .v (.slice none 0 0)]
def zR : List T := [.v (.int .i64 0), .v (.bool false), .v (.int .i64 0), .v (.int .i64 0), .v (.bool false), .v (.int .i64 0), .v (.slice none 0 0)]
def zC : List T := [.v (.int .i64 0), .v (.int .i64 0), .v (.int .i64 0)]
theorem make_recs {α : Type} (enc : α → List T) (l : List α) (d e : Nat) (ag : Bool) (sz b : Nat) (z : List Value) (hz : z.length = sz) (hs : 0 < sz) (hf : (⟨ag, sz, b, z⟩ : TI).fine = true) (hp : z.all plain = true) (hl : l.length * b ≤ lim) :
    makeA d (some (e, ⟨ag, sz, b, z⟩)) (.t (.v (.int .i64 l.length))) (.t (.v (.int .i64 l.length))) = some (.row (d, 0) sz 0 l.length, [((d, 0), some (.row sz (filled (recRow enc l) 0 (z.map .v))))]) := by
  simp only [makeA]
  rw [if_pos ⟨hf, hp, by omega, Int.le_refl _, by simpa using hl⟩, filled_0, recRow_length]
  rfl
@[simp] theorem make_ways (l : List Way) (d e : Nat) (hl : l.length ≤ 1048576) : makeA d (some (e, ⟨true, 4, 64, [.int .i64 0, .bool false, .slice none 0 0, .slice none 0 0]⟩)) (.t (.v (.int .i64 l.length))) (.t (.v (.int .i64 l.length))) = some (.row (d, 0) 4 0 l.length, [((d, 0), some (.row 4 (filled (recRow encW l) 0 zW)))]) :=
  make_recs encW l d e true 4 64 _ rfl (by omega) (by simp [TI.fine]) (by simp [plain]) (by unfold lim; omega)
@[simp] theorem make_rels (l : List Rln) (d e : Nat) (hl : l.length ≤ 1048576) : makeA d (some (e, ⟨true, 7, 72, [.int .i64 0, .bool false, .int .i64 0, .int .i64 0, .bool false, .int .i64 0, .slice none 0 0]⟩)) (.t (.v (.int .i64 l.length))) (.t (.v (.int .i64 l.length))) = some (.row (d, 0) 7 0 l.length, [((d, 0), some (.row 7 (filled (recRow encR l) 0 zR)))]) :=
  make_recs encR l d e true 7 72 _ rfl (by omega) (by simp [TI.fine]) (by simp [plain]) (by unfold lim; omega)
@[simp] theorem make_tcs (l : List Tc) (d e : Nat) (hl : l.length ≤ 1048576) : makeA d (some (e, ⟨true, 3, 24, [.int .i64 0, .int .i64 0, .int .i64 0]⟩)) (.t (.v (.int .i64 l.length))) (.t (.v (.int .i64 l.length))) = some (.row (d, 0) 3 0 l.length, [((d, 0), some (.row 3 (filled (recRow encC l) 0 zC)))]) :=
  make_recs encC l d e true 3 24 _ rfl (by omega) (by simp [TI.fine]) (by simp [plain]) (by unfold lim; omega)
@[simp] theorem filled_len' {α : Type} (enc : α → List T) (l : List α) (k : Nat) (z : List T) (h : k ≤ l.length) : (filled (recRow enc l) k z).length = l.length := by
  rw [filled_length _ _ _ (by rw [recRow_length]; exact h), recRow_length]
@[simp] theorem filled_get' {α : Type} (enc : α → List T) (l : List α) (k : Nat) (z : List T) (h : k < l.length) : (filled (recRow enc l) k z)[k]? = some z := filled_get (by rw [recRow_length]; exact h)
theorem filled_set' {α : Type} [Inhabited α] (enc : α → List T) (l : List α) (k : Nat) (z : List T) (h : k < l.length) : (filled (recRow enc l) k z).set k (enc (nth l k)) = filled (recRow enc l) (k + 1) z := filled_set (by rw [recRow_length]; exact h) (recRow_get enc h)
@[simp] theorem filled_all' {α : Type} (enc : α → List T) (l : List α) (z : List T) : filled (recRow enc l) l.length z = recRow enc l := by
  have := filled_all (recRow enc l) z
  rwa [recRow_length] at this
@[simp] theorem zW_len : zW.length = 4 := rfl
@[simp] theorem zR_len : zR.length = 7 := rfl
@[simp] theorem zC_len : zC.length = 3 := rfl
@[simp] theorem over_W (a b c d : T) : overT zW 0 [a, b, c, d] = [a, b, c, d] := rfl
@[simp] theorem over_R (a b c d e f g : T) : overT zR 0 [a, b, c, d, e, f, g] = [a, b, c, d, e, f, g] := rfl
@[simp] theorem over_C (a b c : T) : overT zC 0 [a, b, c] = [a, b, c] := rfl
@[simp] theorem set_W (l : List Way) (k : Nat) (h : k < l.length) : (filled (recRow encW l) k zW).set k [.v (.int .i64 (nth l k).id), .v (.bool (nth l k).two), ints (nth l k).nodes, ints (nth l k).lens] = filled (recRow encW l) (k + 1) zW := filled_set' encW l k zW h
@[simp] theorem set_R (l : List Rln) (k : Nat) (h : k < l.length) : (filled (recRow encR l) k zR).set k [.v (.int .i64 (nth l k).id), .v (.bool (nth l k).only), .v (.int .i64 (nth l k).fr), .v (.int .i64 (nth l k).to), .v (.bool (nth l k).atNode), .v (.int .i64 (nth l k).node), ints (nth l k).via] = filled (recRow encR l) (k + 1) zR := filled_set' encR l k zR h
@[simp] theorem set_C (l : List Tc) (k : Nat) (h : k < l.length) : (filled (recRow encC l) k zC).set k [.v (.int .i64 (nth l k).fr), .v (.int .i64 (nth l k).to), .v (.int .i64 (nth l k).cost)] = filled (recRow encC l) (k + 1) zC := filled_set' encC l k zC h
def rvW (w : Way) : List RV := [.t (.v (.int .i64 w.id)), .t (.v (.bool w.two)), .own 1 (intRow w.nodes), .own 1 (intRow w.lens)]
def rvR (r : Rln) : List RV := [.t (.v (.int .i64 r.id)), .t (.v (.bool r.only)), .t (.v (.int .i64 r.fr)), .t (.v (.int .i64 r.to)), .t (.v (.bool r.atNode)), .t (.v (.int .i64 r.node)), .own 1 (intRow r.via)]
/-- The code of laws.toWay. -/
def k79 : Code1 :=
  (.seq
    (.region [1, 2] false ([]) [
      ⟨some 1, Op.box 111 (Operand.tmp 0), none⟩,
      ⟨some 2, Op.alloc 90, none⟩])
    (.seq
      (.region [3] false ([]) [
        ⟨some 3, Op.alloc 90, none⟩])
      (.seq
        (.region [] false ([]) [
          ⟨some 4, Op.fieldAddr 111 (Operand.tmp 1) 0, none⟩,
          ⟨some 5, Op.load 2 (Operand.tmp 4), none⟩,
          ⟨some 6, Op.fieldAddr 90 (Operand.tmp 3) 0, none⟩,
          ⟨none, Op.store 2 (Operand.tmp 6) (Operand.tmp 5), none⟩])
        (.seq
          (.region [] false ([]) [
            ⟨some 7, Op.fieldAddr 111 (Operand.tmp 1) 1, none⟩,
            ⟨some 8, Op.load 4 (Operand.tmp 7), none⟩,
            ⟨some 9, Op.fieldAddr 90 (Operand.tmp 3) 1, none⟩,
            ⟨none, Op.store 4 (Operand.tmp 9) (Operand.tmp 8), none⟩])
          (.seq
            (.region [12] false ([]) [
              ⟨some 10, Op.fieldAddr 111 (Operand.tmp 1) 2, none⟩,
              ⟨some 11, Op.load 22 (Operand.tmp 10), none⟩,
              ⟨some 12, Op.call { callee := Callee.value (Operand.func 22), args := #[Operand.tmp 11], argTypes := #[22] }, none⟩,
              ⟨some 13, Op.fieldAddr 90 (Operand.tmp 3) 2, none⟩,
              ⟨none, Op.store 22 (Operand.tmp 13) (Operand.tmp 12), none⟩])
            (.seq
              (.region [16] false ([]) [
                ⟨some 14, Op.fieldAddr 111 (Operand.tmp 1) 3, none⟩,
                ⟨some 15, Op.load 22 (Operand.tmp 14), none⟩,
                ⟨some 16, Op.call { callee := Callee.value (Operand.func 22), args := #[Operand.tmp 15], argTypes := #[22] }, none⟩,
                ⟨some 17, Op.fieldAddr 90 (Operand.tmp 3) 3, none⟩,
                ⟨none, Op.store 22 (Operand.tmp 17) (Operand.tmp 16), none⟩])
              (.seq
                (.region [] false ([]) [
                  ⟨some 18, Op.load 90 (Operand.tmp 3), none⟩,
                  ⟨none, Op.store 90 (Operand.tmp 2) (Operand.tmp 18), none⟩])
                .ret)))))))
theorem toW (w : Way) (h1 : w.nodes.length ≤ 1048576) (h2 : w.lens.length ≤ 1048576) : CallsF Try.prog 79 [.agg (encW w)] (.agg (rvW w)) [] := by
  refine callsF_of_wp1 (fn := Try.f79) (k := k79) (fun _ => []) mixed (by kernel_rfl) rfl (by kernel_rfl) (by kernel_rfl) (by kernel_rfl) rfl (by simp [Try.f79]) (by simp [Arg.like]) ?_
  generalize hst : St.enter [.agg (encW w)] = st0
  have t0 : st0.tm 0 = .agg ((encW w) |>.map .t) := by rw [← hst]; rfl
  clear hst
  unfold k79
  simp [encW] at t0
  repeat' (first
    | (refine wp2_seq fun K hK => ?_)
    | (refine wp1_seq fun K hK => ?_)
    | (refine M_cons fun K hK => ?_)
    | (refine hK _ ?_; clear hK K)
    | (clear hK K; refine hK _ ?_; clear hK K)
    | (clear hK K; clear hK K; refine hK _ ?_; clear hK K)
    | (clear hK K; clear hK K; clear hK K; refine hK _ ?_; clear hK K)
    | (refine hX _ ?_; clear hX hY X Y)
    | (refine hY _ ?_; clear hX hY X Y)
    | (refine wp2_block ?_)
    | (refine wp1_block ?_)
    | (refine wp2_region ?_)
    | (refine wp1_region ?_)
    | (refine wp2_cond fun X Y hX hY => ?_)
    | (refine wp1_cond fun X Y hX hY => ?_)
    | (refine condK_of (fun c => ?_) (fun c => ?_) <;> (try simp [-List.length_eq_zero_iff] at c))
    | (refine guard1_or (fun c => ?_) (fun c => ?_) <;> (have cc := c) <;> (try simp [-List.length_eq_zero_iff] at cc) <;> (try simp (disch := omega) [t0, c]))
    | (refine callT_fl (toI _ ?_) (by simp [St.args, St.arg, t0] <;> first | rfl | ((repeat' first | rfl | apply And.intro); done)) (by first | (simp [RV.flat, RV.flats, T.flat]; done) | ((repeat' first | exact flat_intRow _ | exact flat_boolRow _ | exact trivial | constructor | unfold RV.flat | unfold RV.flats); done)) (by simp [mutsOf]) ?_; omega)
    | (simp (disch := omega) [t0]))
  all_goals try (simp [t0, Back]; done)
  simp [Back, rvW]
/-- The code of laws.toRelation. -/
def k80 : Code1 :=
  (.seq
    (.region [1, 2] false ([]) [
      ⟨some 1, Op.box 113 (Operand.tmp 0), none⟩,
      ⟨some 2, Op.alloc 94, none⟩])
    (.seq
      (.region [3] false ([]) [
        ⟨some 3, Op.alloc 94, none⟩])
      (.seq
        (.region [] false ([]) [
          ⟨some 4, Op.fieldAddr 113 (Operand.tmp 1) 0, none⟩,
          ⟨some 5, Op.load 2 (Operand.tmp 4), none⟩,
          ⟨some 6, Op.fieldAddr 94 (Operand.tmp 3) 0, none⟩,
          ⟨none, Op.store 2 (Operand.tmp 6) (Operand.tmp 5), none⟩])
        (.seq
          (.region [] false ([]) [
            ⟨some 7, Op.fieldAddr 113 (Operand.tmp 1) 1, none⟩,
            ⟨some 8, Op.load 4 (Operand.tmp 7), none⟩,
            ⟨some 9, Op.fieldAddr 94 (Operand.tmp 3) 1, none⟩,
            ⟨none, Op.store 4 (Operand.tmp 9) (Operand.tmp 8), none⟩])
          (.seq
            (.region [] false ([]) [
              ⟨some 10, Op.fieldAddr 113 (Operand.tmp 1) 2, none⟩,
              ⟨some 11, Op.load 2 (Operand.tmp 10), none⟩,
              ⟨some 12, Op.fieldAddr 94 (Operand.tmp 3) 2, none⟩,
              ⟨none, Op.store 2 (Operand.tmp 12) (Operand.tmp 11), none⟩])
            (.seq
              (.region [] false ([]) [
                ⟨some 13, Op.fieldAddr 113 (Operand.tmp 1) 3, none⟩,
                ⟨some 14, Op.load 2 (Operand.tmp 13), none⟩,
                ⟨some 15, Op.fieldAddr 94 (Operand.tmp 3) 3, none⟩,
                ⟨none, Op.store 2 (Operand.tmp 15) (Operand.tmp 14), none⟩])
              (.seq
                (.region [] false ([]) [
                  ⟨some 16, Op.fieldAddr 113 (Operand.tmp 1) 4, none⟩,
                  ⟨some 17, Op.load 4 (Operand.tmp 16), none⟩,
                  ⟨some 18, Op.fieldAddr 94 (Operand.tmp 3) 4, none⟩,
                  ⟨none, Op.store 4 (Operand.tmp 18) (Operand.tmp 17), none⟩])
                (.seq
                  (.region [] false ([]) [
                    ⟨some 19, Op.fieldAddr 113 (Operand.tmp 1) 5, none⟩,
                    ⟨some 20, Op.load 2 (Operand.tmp 19), none⟩,
                    ⟨some 21, Op.fieldAddr 94 (Operand.tmp 3) 5, none⟩,
                    ⟨none, Op.store 2 (Operand.tmp 21) (Operand.tmp 20), none⟩])
                  (.seq
                    (.region [24] false ([]) [
                      ⟨some 22, Op.fieldAddr 113 (Operand.tmp 1) 6, none⟩,
                      ⟨some 23, Op.load 22 (Operand.tmp 22), none⟩,
                      ⟨some 24, Op.call { callee := Callee.value (Operand.func 22), args := #[Operand.tmp 23], argTypes := #[22] }, none⟩,
                      ⟨some 25, Op.fieldAddr 94 (Operand.tmp 3) 6, none⟩,
                      ⟨none, Op.store 22 (Operand.tmp 25) (Operand.tmp 24), none⟩])
                    (.seq
                      (.region [] false ([]) [
                        ⟨some 26, Op.load 94 (Operand.tmp 3), none⟩,
                        ⟨none, Op.store 94 (Operand.tmp 2) (Operand.tmp 26), none⟩])
                      .ret))))))))))
theorem toR (r : Rln) (h1 : r.via.length ≤ 1048576) : CallsF Try.prog 80 [.agg (encR r)] (.agg (rvR r)) [] := by
  refine callsF_of_wp1 (fn := Try.f80) (k := k80) (fun _ => []) mixed (by kernel_rfl) rfl (by kernel_rfl) (by kernel_rfl) (by kernel_rfl) rfl (by simp [Try.f80]) (by simp [Arg.like]) ?_
  generalize hst : St.enter [.agg (encR r)] = st0
  have t0 : st0.tm 0 = .agg ((encR r) |>.map .t) := by rw [← hst]; rfl
  clear hst
  unfold k80
  simp [encR] at t0
  repeat' (first
    | (refine wp2_seq fun K hK => ?_)
    | (refine wp1_seq fun K hK => ?_)
    | (refine M_cons fun K hK => ?_)
    | (refine hK _ ?_; clear hK K)
    | (clear hK K; refine hK _ ?_; clear hK K)
    | (clear hK K; clear hK K; refine hK _ ?_; clear hK K)
    | (clear hK K; clear hK K; clear hK K; refine hK _ ?_; clear hK K)
    | (refine hX _ ?_; clear hX hY X Y)
    | (refine hY _ ?_; clear hX hY X Y)
    | (refine wp2_block ?_)
    | (refine wp1_block ?_)
    | (refine wp2_region ?_)
    | (refine wp1_region ?_)
    | (refine wp2_cond fun X Y hX hY => ?_)
    | (refine wp1_cond fun X Y hX hY => ?_)
    | (refine condK_of (fun c => ?_) (fun c => ?_) <;> (try simp [-List.length_eq_zero_iff] at c))
    | (refine guard1_or (fun c => ?_) (fun c => ?_) <;> (have cc := c) <;> (try simp [-List.length_eq_zero_iff] at cc) <;> (try simp (disch := omega) [t0, c]))
    | (refine callT_fl (toI _ ?_) (by simp [St.args, St.arg, t0] <;> first | rfl | ((repeat' first | rfl | apply And.intro); done)) (by first | (simp [RV.flat, RV.flats, T.flat]; done) | ((repeat' first | exact flat_intRow _ | exact flat_boolRow _ | exact trivial | constructor | unfold RV.flat | unfold RV.flats); done)) (by simp [mutsOf]) ?_; omega)
    | (simp (disch := omega) [t0]))
  all_goals try (simp [t0, Back]; done)
  simp [Back, rvR]
/-- The code of laws.toTurnCost. -/
def k81 : Code1 :=
  (.seq
    (.region [1, 2] false ([]) [
      ⟨some 1, Op.box 118 (Operand.tmp 0), none⟩,
      ⟨some 2, Op.alloc 96, none⟩])
    (.seq
      (.region [3] false ([]) [
        ⟨some 3, Op.alloc 96, none⟩])
      (.seq
        (.region [] false ([]) [
          ⟨some 4, Op.fieldAddr 118 (Operand.tmp 1) 0, none⟩,
          ⟨some 5, Op.load 2 (Operand.tmp 4), none⟩,
          ⟨some 6, Op.fieldAddr 96 (Operand.tmp 3) 0, none⟩,
          ⟨none, Op.store 2 (Operand.tmp 6) (Operand.tmp 5), none⟩])
        (.seq
          (.region [] false ([]) [
            ⟨some 7, Op.fieldAddr 118 (Operand.tmp 1) 1, none⟩,
            ⟨some 8, Op.load 2 (Operand.tmp 7), none⟩,
            ⟨some 9, Op.fieldAddr 96 (Operand.tmp 3) 1, none⟩,
            ⟨none, Op.store 2 (Operand.tmp 9) (Operand.tmp 8), none⟩])
          (.seq
            (.region [] false ([]) [
              ⟨some 10, Op.fieldAddr 118 (Operand.tmp 1) 2, none⟩,
              ⟨some 11, Op.load 2 (Operand.tmp 10), none⟩,
              ⟨some 12, Op.fieldAddr 96 (Operand.tmp 3) 2, none⟩,
              ⟨none, Op.store 2 (Operand.tmp 12) (Operand.tmp 11), none⟩])
            (.seq
              (.region [] false ([]) [
                ⟨some 13, Op.load 96 (Operand.tmp 3), none⟩,
                ⟨none, Op.store 96 (Operand.tmp 2) (Operand.tmp 13), none⟩])
              .ret))))))
theorem toC (t : Tc) : CallsF Try.prog 81 [.agg (encC t)] (.agg [.t (.v (.int .i64 t.fr)), .t (.v (.int .i64 t.to)), .t (.v (.int .i64 t.cost))]) [] := by
  refine callsF_of_wp1 (fn := Try.f81) (k := k81) (fun _ => []) mixed (by kernel_rfl) rfl (by kernel_rfl) (by kernel_rfl) (by kernel_rfl) rfl (by simp [Try.f81]) (by simp [Arg.like]) ?_
  generalize hst : St.enter [.agg (encC t)] = st0
  have t0 : st0.tm 0 = .agg ((encC t) |>.map .t) := by rw [← hst]; rfl
  clear hst
  unfold k81
  simp [encC] at t0
  repeat' (first
    | (refine wp2_seq fun K hK => ?_)
    | (refine wp1_seq fun K hK => ?_)
    | (refine M_cons fun K hK => ?_)
    | (refine hK _ ?_; clear hK K)
    | (clear hK K; refine hK _ ?_; clear hK K)
    | (clear hK K; clear hK K; refine hK _ ?_; clear hK K)
    | (clear hK K; clear hK K; clear hK K; refine hK _ ?_; clear hK K)
    | (refine hX _ ?_; clear hX hY X Y)
    | (refine hY _ ?_; clear hX hY X Y)
    | (refine wp2_block ?_)
    | (refine wp1_block ?_)
    | (refine wp2_region ?_)
    | (refine wp1_region ?_)
    | (refine wp2_cond fun X Y hX hY => ?_)
    | (refine wp1_cond fun X Y hX hY => ?_)
    | (refine condK_of (fun c => ?_) (fun c => ?_) <;> (try simp [-List.length_eq_zero_iff] at c))
    | (refine guard1_or (fun c => ?_) (fun c => ?_) <;> (have cc := c) <;> (try simp [-List.length_eq_zero_iff] at cc) <;> (try simp (disch := omega) [t0, c]))
    | (simp (disch := omega) [t0]))
  all_goals try (simp [t0, Back]; done)
/-- The code of laws.toWayS. -/
def k66 : Code1 :=
  (.seq
    (.region [] false ([]) [
      ⟨some 2, Op.assign (Operand.const (Value.slice none 0 0)), none⟩])
    (.seq
      (.region [7] false ([]) [
        ⟨some 5, Op.move (Operand.tmp 0), none⟩,
        ⟨some 6, Op.call { callee := Callee.builtin Builtin.len, args := #[Operand.tmp 5], argTypes := #[51] }, none⟩,
        ⟨some 7, Op.makeSlice 58 (Operand.tmp 6) (Operand.tmp 6), none⟩,
        ⟨some 3, Op.assign (Operand.tmp 7), none⟩])
      (.seq
        (.seq
          (.region [] false ([]) [
            ⟨some 4, Op.assign (Operand.const (Value.int IntKind.i64 0)), none⟩])
          (.block 0
            (.loop
              (.seq
                (.seq
                  (.region [] false ([]) [
                    ⟨some 8, Op.move (Operand.tmp 4), none⟩,
                    ⟨some 9, Op.move (Operand.tmp 0), none⟩,
                    ⟨some 10, Op.call { callee := Callee.builtin Builtin.len, args := #[Operand.tmp 9], argTypes := #[51] }, none⟩,
                    ⟨some 11, Op.binOp BinOp.lss 3 (Operand.tmp 8) (Operand.tmp 10) 3, none⟩])
                  (.cond (Operand.tmp 11)
                    .skip
                    (.exit 0)))
                (.seq
                  (.block 1
                    (.region [20] false ([]) [
                      ⟨some 14, Op.move (Operand.tmp 3), none⟩,
                      ⟨some 15, Op.move (Operand.tmp 4), none⟩,
                      ⟨some 16, Op.move (Operand.tmp 0), none⟩,
                      ⟨some 17, Op.move (Operand.tmp 4), none⟩,
                      ⟨some 18, Op.indexAddr 51 (Operand.tmp 16) (Operand.tmp 17), none⟩,
                      ⟨some 19, Op.load 111 (Operand.tmp 18), none⟩,
                      ⟨some 20, Op.call { callee := Callee.value (Operand.func 79), args := #[Operand.tmp 19], argTypes := #[111] }, none⟩,
                      ⟨some 21, Op.indexAddr 58 (Operand.tmp 14) (Operand.tmp 15), none⟩,
                      ⟨none, Op.store 90 (Operand.tmp 21) (Operand.tmp 20), none⟩]))
                  (.region [] false ([]) [
                    ⟨some 12, Op.move (Operand.tmp 4), none⟩,
                    ⟨some 13, Op.binOp BinOp.add 3 (Operand.tmp 12) (Operand.const (Value.int IntKind.i64 1)) 3, none⟩,
                    ⟨some 4, Op.assign (Operand.tmp 13), none⟩]))))))
        (.seq
          (.region [] false ([]) [
            ⟨some 22, Op.move (Operand.tmp 3), none⟩,
            ⟨some 2, Op.assign (Operand.tmp 22), none⟩])
          .ret))))
theorem toWs (l : List Way) (hl : l.length ≤ 1048576) (h1 : ∀ i : Nat, i < l.length → (nth l i).nodes.length ≤ 1048576) (h2 : ∀ i : Nat, i < l.length → (nth l i).lens.length ≤ 1048576) : CallsF Try.prog 66 [.val (recs encW l)] (.own 4 (recRow encW l)) [] := by
  refine callsF_of_wp1 (fn := Try.f66) (k := k66) (fun _ => []) mixed (by kernel_rfl) rfl (by kernel_rfl) (by kernel_rfl) (by kernel_rfl) rfl (by simp [Try.f66]) (by simp [Arg.like]) ?_
  generalize hst : St.enter [.val (recs encW l)] = st0
  have t0 : st0.tm 0 = .t (recs encW l) := by rw [← hst]; rfl
  clear hst
  unfold k66
  repeat' (first
    | (refine wp2_seq fun K hK => ?_)
    | (refine wp1_seq fun K hK => ?_)
    | (refine M_cons fun K hK => ?_)
    | (refine hK _ ?_; clear hK K)
    | (clear hK K; refine hK _ ?_; clear hK K)
    | (clear hK K; clear hK K; refine hK _ ?_; clear hK K)
    | (clear hK K; clear hK K; clear hK K; refine hK _ ?_; clear hK K)
    | (refine hX _ ?_; clear hX hY X Y)
    | (refine hY _ ?_; clear hX hY X Y)
    | (refine wp2_block ?_)
    | (refine wp1_block ?_)
    | (refine wp2_region ?_)
    | (refine wp1_region ?_)
    | (refine wp2_cond fun X Y hX hY => ?_)
    | (refine wp1_cond fun X Y hX hY => ?_)
    | (refine condK_of (fun c => ?_) (fun c => ?_) <;> (try simp [-List.length_eq_zero_iff] at c))
    | (refine guard1_or (fun c => ?_) (fun c => ?_) <;> (have cc := c) <;> (try simp [-List.length_eq_zero_iff] at cc) <;> (try simp (disch := omega) [t0, c]))
    | (simp (disch := omega) [t0]))
  all_goals try (simp [t0, Back]; done)
  have hJ : ∀ s : St, s.tm 3 = .row (7, 0) 4 0 l.length → s.ob (7, 0) = some (.row 4 (recRow encW l)) → K s := by
    intro s s3 o
    repeat' (first
      | (refine wp2_seq fun K hK => ?_)
      | (refine wp1_seq fun K hK => ?_)
      | (refine M_cons fun K hK => ?_)
      | (refine hK _ ?_; clear hK K)
      | (clear hK K; refine hK _ ?_; clear hK K)
      | (clear hK K; clear hK K; refine hK _ ?_; clear hK K)
      | (clear hK K; clear hK K; clear hK K; refine hK _ ?_; clear hK K)
      | (refine hX _ ?_; clear hX hY X Y)
      | (refine hY _ ?_; clear hX hY X Y)
      | (refine wp2_block ?_)
      | (refine wp1_block ?_)
      | (refine wp2_region ?_)
      | (refine wp1_region ?_)
      | (refine wp2_cond fun X Y hX hY => ?_)
      | (refine wp1_cond fun X Y hX hY => ?_)
      | (refine condK_of (fun c => ?_) (fun c => ?_) <;> (try simp [-List.length_eq_zero_iff] at c))
      | (refine guard1_or (fun c => ?_) (fun c => ?_) <;> (have cc := c) <;> (try simp [-List.length_eq_zero_iff] at cc) <;> (try simp (disch := omega) [s3, o, c]))
      | (simp (disch := omega) [s3, o]))
    all_goals try (simp [s3, o, Back]; done)
  clear hK
  refine wp1_loop (fun n s => ∃ k : Nat, s.tm 0 = .t (recs encW l) ∧ s.tm 3 = .row (7, 0) 4 0 l.length ∧ s.tm 4 = .t (.v (.int .i64 k)) ∧ s.ob (7, 0) = some (.row 4 (filled (recRow encW l) k zW)) ∧ k ≤ l.length ∧ n = l.length - k) l.length ?_ ?_
  · refine ⟨0, ?_⟩
    simp [t0]
  · rintro n s ⟨k, s0, s3, s4, o, hk, rfl⟩ K' hK'
    have g1 := h1 k
    have g2 := h2 k
    by_cases hlt : k < l.length
    · repeat' (first
        | (refine wp2_seq fun K hK => ?_)
        | (refine wp1_seq fun K hK => ?_)
        | (refine M_cons fun K hK => ?_)
        | (refine hK _ ?_; clear hK K)
        | (clear hK K; refine hK _ ?_; clear hK K)
        | (clear hK K; clear hK K; refine hK _ ?_; clear hK K)
        | (clear hK K; clear hK K; clear hK K; refine hK _ ?_; clear hK K)
        | (refine hX _ ?_; clear hX hY X Y)
        | (refine hY _ ?_; clear hX hY X Y)
        | (refine wp2_block ?_)
        | (refine wp1_block ?_)
        | (refine wp2_region ?_)
        | (refine wp1_region ?_)
        | (refine wp2_cond fun X Y hX hY => ?_)
        | (refine wp1_cond fun X Y hX hY => ?_)
        | (refine condK_of (fun c => ?_) (fun c => ?_) <;> (try simp [-List.length_eq_zero_iff] at c))
        | (refine guard1_or (fun c => ?_) (fun c => ?_) <;> (have cc := c) <;> (try simp [-List.length_eq_zero_iff] at cc) <;> (try simp (disch := omega) [s0, s3, s4, o, encW, rvW, c]))
        | (refine callT_fl (toW _ ?_ ?_) (by simp [St.args, St.arg, s0, s3, s4, o, encW, rvW] <;> first | rfl | ((repeat' first | rfl | apply And.intro); done)) (by first | (simp [RV.flat, RV.flats, T.flat]; done) | ((repeat' first | exact flat_intRow _ | exact flat_boolRow _ | exact trivial | constructor | unfold RV.flat | unfold RV.flats); done)) (by simp [mutsOf]) ?_; omega; omega)
        | (simp (disch := omega) [s0, s3, s4, o, encW, rvW]))
      all_goals try (simp [s0, s3, s4, o, encW, rvW, Back]; done)
      all_goals first
        | omega
        | (refine hK' (l.length - (k + 1)) _ (by omega) ⟨k + 1, ?_⟩
           simp [s0, s3]
           omega)
    · have hkl : k = l.length := by omega
      subst hkl
      repeat' (first
        | (refine wp2_seq fun K hK => ?_)
        | (refine wp1_seq fun K hK => ?_)
        | (refine M_cons fun K hK => ?_)
        | (refine hK _ ?_; clear hK K)
        | (clear hK K; refine hK _ ?_; clear hK K)
        | (clear hK K; clear hK K; refine hK _ ?_; clear hK K)
        | (clear hK K; clear hK K; clear hK K; refine hK _ ?_; clear hK K)
        | (refine hX _ ?_; clear hX hY X Y)
        | (refine hY _ ?_; clear hX hY X Y)
        | (refine wp2_block ?_)
        | (refine wp1_block ?_)
        | (refine wp2_region ?_)
        | (refine wp1_region ?_)
        | (refine wp2_cond fun X Y hX hY => ?_)
        | (refine wp1_cond fun X Y hX hY => ?_)
        | (refine condK_of (fun c => ?_) (fun c => ?_) <;> (try simp [-List.length_eq_zero_iff] at c))
        | (refine guard1_or (fun c => ?_) (fun c => ?_) <;> (have cc := c) <;> (try simp [-List.length_eq_zero_iff] at cc) <;> (try simp (disch := omega) [s0, s3, s4, o, c]))
        | (simp (disch := omega) [s0, s3, s4, o]))
      all_goals try (simp [s0, s3, s4, o, Back]; done)
      all_goals first
        | omega
        | exact hJ _ (by simp [s3]) (by simp [o])
/-- The code of laws.toRelationS. -/
def k67 : Code1 :=
  (.seq
    (.region [] false ([]) [
      ⟨some 2, Op.assign (Operand.const (Value.slice none 0 0)), none⟩])
    (.seq
      (.region [7] false ([]) [
        ⟨some 5, Op.move (Operand.tmp 0), none⟩,
        ⟨some 6, Op.call { callee := Callee.builtin Builtin.len, args := #[Operand.tmp 5], argTypes := #[52] }, none⟩,
        ⟨some 7, Op.makeSlice 59 (Operand.tmp 6) (Operand.tmp 6), none⟩,
        ⟨some 3, Op.assign (Operand.tmp 7), none⟩])
      (.seq
        (.seq
          (.region [] false ([]) [
            ⟨some 4, Op.assign (Operand.const (Value.int IntKind.i64 0)), none⟩])
          (.block 0
            (.loop
              (.seq
                (.seq
                  (.region [] false ([]) [
                    ⟨some 8, Op.move (Operand.tmp 4), none⟩,
                    ⟨some 9, Op.move (Operand.tmp 0), none⟩,
                    ⟨some 10, Op.call { callee := Callee.builtin Builtin.len, args := #[Operand.tmp 9], argTypes := #[52] }, none⟩,
                    ⟨some 11, Op.binOp BinOp.lss 3 (Operand.tmp 8) (Operand.tmp 10) 3, none⟩])
                  (.cond (Operand.tmp 11)
                    .skip
                    (.exit 0)))
                (.seq
                  (.block 1
                    (.region [20] false ([]) [
                      ⟨some 14, Op.move (Operand.tmp 3), none⟩,
                      ⟨some 15, Op.move (Operand.tmp 4), none⟩,
                      ⟨some 16, Op.move (Operand.tmp 0), none⟩,
                      ⟨some 17, Op.move (Operand.tmp 4), none⟩,
                      ⟨some 18, Op.indexAddr 52 (Operand.tmp 16) (Operand.tmp 17), none⟩,
                      ⟨some 19, Op.load 113 (Operand.tmp 18), none⟩,
                      ⟨some 20, Op.call { callee := Callee.value (Operand.func 80), args := #[Operand.tmp 19], argTypes := #[113] }, none⟩,
                      ⟨some 21, Op.indexAddr 59 (Operand.tmp 14) (Operand.tmp 15), none⟩,
                      ⟨none, Op.store 94 (Operand.tmp 21) (Operand.tmp 20), none⟩]))
                  (.region [] false ([]) [
                    ⟨some 12, Op.move (Operand.tmp 4), none⟩,
                    ⟨some 13, Op.binOp BinOp.add 3 (Operand.tmp 12) (Operand.const (Value.int IntKind.i64 1)) 3, none⟩,
                    ⟨some 4, Op.assign (Operand.tmp 13), none⟩]))))))
        (.seq
          (.region [] false ([]) [
            ⟨some 22, Op.move (Operand.tmp 3), none⟩,
            ⟨some 2, Op.assign (Operand.tmp 22), none⟩])
          .ret))))
theorem toRs (l : List Rln) (hl : l.length ≤ 1048576) (h1 : ∀ i : Nat, i < l.length → (nth l i).via.length ≤ 1048576) : CallsF Try.prog 67 [.val (recs encR l)] (.own 7 (recRow encR l)) [] := by
  refine callsF_of_wp1 (fn := Try.f67) (k := k67) (fun _ => []) mixed (by kernel_rfl) rfl (by kernel_rfl) (by kernel_rfl) (by kernel_rfl) rfl (by simp [Try.f67]) (by simp [Arg.like]) ?_
  generalize hst : St.enter [.val (recs encR l)] = st0
  have t0 : st0.tm 0 = .t (recs encR l) := by rw [← hst]; rfl
  clear hst
  unfold k67
  repeat' (first
    | (refine wp2_seq fun K hK => ?_)
    | (refine wp1_seq fun K hK => ?_)
    | (refine M_cons fun K hK => ?_)
    | (refine hK _ ?_; clear hK K)
    | (clear hK K; refine hK _ ?_; clear hK K)
    | (clear hK K; clear hK K; refine hK _ ?_; clear hK K)
    | (clear hK K; clear hK K; clear hK K; refine hK _ ?_; clear hK K)
    | (refine hX _ ?_; clear hX hY X Y)
    | (refine hY _ ?_; clear hX hY X Y)
    | (refine wp2_block ?_)
    | (refine wp1_block ?_)
    | (refine wp2_region ?_)
    | (refine wp1_region ?_)
    | (refine wp2_cond fun X Y hX hY => ?_)
    | (refine wp1_cond fun X Y hX hY => ?_)
    | (refine condK_of (fun c => ?_) (fun c => ?_) <;> (try simp [-List.length_eq_zero_iff] at c))
    | (refine guard1_or (fun c => ?_) (fun c => ?_) <;> (have cc := c) <;> (try simp [-List.length_eq_zero_iff] at cc) <;> (try simp (disch := omega) [t0, c]))
    | (simp (disch := omega) [t0]))
  all_goals try (simp [t0, Back]; done)
  have hJ : ∀ s : St, s.tm 3 = .row (7, 0) 7 0 l.length → s.ob (7, 0) = some (.row 7 (recRow encR l)) → K s := by
    intro s s3 o
    repeat' (first
      | (refine wp2_seq fun K hK => ?_)
      | (refine wp1_seq fun K hK => ?_)
      | (refine M_cons fun K hK => ?_)
      | (refine hK _ ?_; clear hK K)
      | (clear hK K; refine hK _ ?_; clear hK K)
      | (clear hK K; clear hK K; refine hK _ ?_; clear hK K)
      | (clear hK K; clear hK K; clear hK K; refine hK _ ?_; clear hK K)
      | (refine hX _ ?_; clear hX hY X Y)
      | (refine hY _ ?_; clear hX hY X Y)
      | (refine wp2_block ?_)
      | (refine wp1_block ?_)
      | (refine wp2_region ?_)
      | (refine wp1_region ?_)
      | (refine wp2_cond fun X Y hX hY => ?_)
      | (refine wp1_cond fun X Y hX hY => ?_)
      | (refine condK_of (fun c => ?_) (fun c => ?_) <;> (try simp [-List.length_eq_zero_iff] at c))
      | (refine guard1_or (fun c => ?_) (fun c => ?_) <;> (have cc := c) <;> (try simp [-List.length_eq_zero_iff] at cc) <;> (try simp (disch := omega) [s3, o, c]))
      | (simp (disch := omega) [s3, o]))
    all_goals try (simp [s3, o, Back]; done)
  clear hK
  refine wp1_loop (fun n s => ∃ k : Nat, s.tm 0 = .t (recs encR l) ∧ s.tm 3 = .row (7, 0) 7 0 l.length ∧ s.tm 4 = .t (.v (.int .i64 k)) ∧ s.ob (7, 0) = some (.row 7 (filled (recRow encR l) k zR)) ∧ k ≤ l.length ∧ n = l.length - k) l.length ?_ ?_
  · refine ⟨0, ?_⟩
    simp [t0]
  · rintro n s ⟨k, s0, s3, s4, o, hk, rfl⟩ K' hK'
    have g1 := h1 k
    by_cases hlt : k < l.length
    · repeat' (first
        | (refine wp2_seq fun K hK => ?_)
        | (refine wp1_seq fun K hK => ?_)
        | (refine M_cons fun K hK => ?_)
        | (refine hK _ ?_; clear hK K)
        | (clear hK K; refine hK _ ?_; clear hK K)
        | (clear hK K; clear hK K; refine hK _ ?_; clear hK K)
        | (clear hK K; clear hK K; clear hK K; refine hK _ ?_; clear hK K)
        | (refine hX _ ?_; clear hX hY X Y)
        | (refine hY _ ?_; clear hX hY X Y)
        | (refine wp2_block ?_)
        | (refine wp1_block ?_)
        | (refine wp2_region ?_)
        | (refine wp1_region ?_)
        | (refine wp2_cond fun X Y hX hY => ?_)
        | (refine wp1_cond fun X Y hX hY => ?_)
        | (refine condK_of (fun c => ?_) (fun c => ?_) <;> (try simp [-List.length_eq_zero_iff] at c))
        | (refine guard1_or (fun c => ?_) (fun c => ?_) <;> (have cc := c) <;> (try simp [-List.length_eq_zero_iff] at cc) <;> (try simp (disch := omega) [s0, s3, s4, o, encR, rvR, c]))
        | (refine callT_fl (toR _ ?_) (by simp [St.args, St.arg, s0, s3, s4, o, encR, rvR] <;> first | rfl | ((repeat' first | rfl | apply And.intro); done)) (by first | (simp [RV.flat, RV.flats, T.flat]; done) | ((repeat' first | exact flat_intRow _ | exact flat_boolRow _ | exact trivial | constructor | unfold RV.flat | unfold RV.flats); done)) (by simp [mutsOf]) ?_; omega)
        | (simp (disch := omega) [s0, s3, s4, o, encR, rvR]))
      all_goals try (simp [s0, s3, s4, o, encR, rvR, Back]; done)
      all_goals first
        | omega
        | (refine hK' (l.length - (k + 1)) _ (by omega) ⟨k + 1, ?_⟩
           simp [s0, s3]
           omega)
    · have hkl : k = l.length := by omega
      subst hkl
      repeat' (first
        | (refine wp2_seq fun K hK => ?_)
        | (refine wp1_seq fun K hK => ?_)
        | (refine M_cons fun K hK => ?_)
        | (refine hK _ ?_; clear hK K)
        | (clear hK K; refine hK _ ?_; clear hK K)
        | (clear hK K; clear hK K; refine hK _ ?_; clear hK K)
        | (clear hK K; clear hK K; clear hK K; refine hK _ ?_; clear hK K)
        | (refine hX _ ?_; clear hX hY X Y)
        | (refine hY _ ?_; clear hX hY X Y)
        | (refine wp2_block ?_)
        | (refine wp1_block ?_)
        | (refine wp2_region ?_)
        | (refine wp1_region ?_)
        | (refine wp2_cond fun X Y hX hY => ?_)
        | (refine wp1_cond fun X Y hX hY => ?_)
        | (refine condK_of (fun c => ?_) (fun c => ?_) <;> (try simp [-List.length_eq_zero_iff] at c))
        | (refine guard1_or (fun c => ?_) (fun c => ?_) <;> (have cc := c) <;> (try simp [-List.length_eq_zero_iff] at cc) <;> (try simp (disch := omega) [s0, s3, s4, o, c]))
        | (simp (disch := omega) [s0, s3, s4, o]))
      all_goals try (simp [s0, s3, s4, o, Back]; done)
      all_goals first
        | omega
        | exact hJ _ (by simp [s3]) (by simp [o])
/-- The code of laws.toTurnCostS. -/
def k68 : Code1 :=
  (.seq
    (.region [] false ([]) [
      ⟨some 2, Op.assign (Operand.const (Value.slice none 0 0)), none⟩])
    (.seq
      (.region [7] false ([]) [
        ⟨some 5, Op.move (Operand.tmp 0), none⟩,
        ⟨some 6, Op.call { callee := Callee.builtin Builtin.len, args := #[Operand.tmp 5], argTypes := #[53] }, none⟩,
        ⟨some 7, Op.makeSlice 60 (Operand.tmp 6) (Operand.tmp 6), none⟩,
        ⟨some 3, Op.assign (Operand.tmp 7), none⟩])
      (.seq
        (.seq
          (.region [] false ([]) [
            ⟨some 4, Op.assign (Operand.const (Value.int IntKind.i64 0)), none⟩])
          (.block 0
            (.loop
              (.seq
                (.seq
                  (.region [] false ([]) [
                    ⟨some 8, Op.move (Operand.tmp 4), none⟩,
                    ⟨some 9, Op.move (Operand.tmp 0), none⟩,
                    ⟨some 10, Op.call { callee := Callee.builtin Builtin.len, args := #[Operand.tmp 9], argTypes := #[53] }, none⟩,
                    ⟨some 11, Op.binOp BinOp.lss 3 (Operand.tmp 8) (Operand.tmp 10) 3, none⟩])
                  (.cond (Operand.tmp 11)
                    .skip
                    (.exit 0)))
                (.seq
                  (.block 1
                    (.region [20] false ([]) [
                      ⟨some 14, Op.move (Operand.tmp 3), none⟩,
                      ⟨some 15, Op.move (Operand.tmp 4), none⟩,
                      ⟨some 16, Op.move (Operand.tmp 0), none⟩,
                      ⟨some 17, Op.move (Operand.tmp 4), none⟩,
                      ⟨some 18, Op.indexAddr 53 (Operand.tmp 16) (Operand.tmp 17), none⟩,
                      ⟨some 19, Op.load 118 (Operand.tmp 18), none⟩,
                      ⟨some 20, Op.call { callee := Callee.value (Operand.func 81), args := #[Operand.tmp 19], argTypes := #[118] }, none⟩,
                      ⟨some 21, Op.indexAddr 60 (Operand.tmp 14) (Operand.tmp 15), none⟩,
                      ⟨none, Op.store 96 (Operand.tmp 21) (Operand.tmp 20), none⟩]))
                  (.region [] false ([]) [
                    ⟨some 12, Op.move (Operand.tmp 4), none⟩,
                    ⟨some 13, Op.binOp BinOp.add 3 (Operand.tmp 12) (Operand.const (Value.int IntKind.i64 1)) 3, none⟩,
                    ⟨some 4, Op.assign (Operand.tmp 13), none⟩]))))))
        (.seq
          (.region [] false ([]) [
            ⟨some 22, Op.move (Operand.tmp 3), none⟩,
            ⟨some 2, Op.assign (Operand.tmp 22), none⟩])
          .ret))))
theorem toCs (l : List Tc) (hl : l.length ≤ 1048576)  : CallsF Try.prog 68 [.val (recs encC l)] (.own 3 (recRow encC l)) [] := by
  refine callsF_of_wp1 (fn := Try.f68) (k := k68) (fun _ => []) mixed (by kernel_rfl) rfl (by kernel_rfl) (by kernel_rfl) (by kernel_rfl) rfl (by simp [Try.f68]) (by simp [Arg.like]) ?_
  generalize hst : St.enter [.val (recs encC l)] = st0
  have t0 : st0.tm 0 = .t (recs encC l) := by rw [← hst]; rfl
  clear hst
  unfold k68
  repeat' (first
    | (refine wp2_seq fun K hK => ?_)
    | (refine wp1_seq fun K hK => ?_)
    | (refine M_cons fun K hK => ?_)
    | (refine hK _ ?_; clear hK K)
    | (clear hK K; refine hK _ ?_; clear hK K)
    | (clear hK K; clear hK K; refine hK _ ?_; clear hK K)
    | (clear hK K; clear hK K; clear hK K; refine hK _ ?_; clear hK K)
    | (refine hX _ ?_; clear hX hY X Y)
    | (refine hY _ ?_; clear hX hY X Y)
    | (refine wp2_block ?_)
    | (refine wp1_block ?_)
    | (refine wp2_region ?_)
    | (refine wp1_region ?_)
    | (refine wp2_cond fun X Y hX hY => ?_)
    | (refine wp1_cond fun X Y hX hY => ?_)
    | (refine condK_of (fun c => ?_) (fun c => ?_) <;> (try simp [-List.length_eq_zero_iff] at c))
    | (refine guard1_or (fun c => ?_) (fun c => ?_) <;> (have cc := c) <;> (try simp [-List.length_eq_zero_iff] at cc) <;> (try simp (disch := omega) [t0, c]))
    | (simp (disch := omega) [t0]))
  all_goals try (simp [t0, Back]; done)
  have hJ : ∀ s : St, s.tm 3 = .row (7, 0) 3 0 l.length → s.ob (7, 0) = some (.row 3 (recRow encC l)) → K s := by
    intro s s3 o
    repeat' (first
      | (refine wp2_seq fun K hK => ?_)
      | (refine wp1_seq fun K hK => ?_)
      | (refine M_cons fun K hK => ?_)
      | (refine hK _ ?_; clear hK K)
      | (clear hK K; refine hK _ ?_; clear hK K)
      | (clear hK K; clear hK K; refine hK _ ?_; clear hK K)
      | (clear hK K; clear hK K; clear hK K; refine hK _ ?_; clear hK K)
      | (refine hX _ ?_; clear hX hY X Y)
      | (refine hY _ ?_; clear hX hY X Y)
      | (refine wp2_block ?_)
      | (refine wp1_block ?_)
      | (refine wp2_region ?_)
      | (refine wp1_region ?_)
      | (refine wp2_cond fun X Y hX hY => ?_)
      | (refine wp1_cond fun X Y hX hY => ?_)
      | (refine condK_of (fun c => ?_) (fun c => ?_) <;> (try simp [-List.length_eq_zero_iff] at c))
      | (refine guard1_or (fun c => ?_) (fun c => ?_) <;> (have cc := c) <;> (try simp [-List.length_eq_zero_iff] at cc) <;> (try simp (disch := omega) [s3, o, c]))
      | (simp (disch := omega) [s3, o]))
    all_goals try (simp [s3, o, Back]; done)
  clear hK
  refine wp1_loop (fun n s => ∃ k : Nat, s.tm 0 = .t (recs encC l) ∧ s.tm 3 = .row (7, 0) 3 0 l.length ∧ s.tm 4 = .t (.v (.int .i64 k)) ∧ s.ob (7, 0) = some (.row 3 (filled (recRow encC l) k zC)) ∧ k ≤ l.length ∧ n = l.length - k) l.length ?_ ?_
  · refine ⟨0, ?_⟩
    simp [t0]
  · rintro n s ⟨k, s0, s3, s4, o, hk, rfl⟩ K' hK'
    by_cases hlt : k < l.length
    · repeat' (first
        | (refine wp2_seq fun K hK => ?_)
        | (refine wp1_seq fun K hK => ?_)
        | (refine M_cons fun K hK => ?_)
        | (refine hK _ ?_; clear hK K)
        | (clear hK K; refine hK _ ?_; clear hK K)
        | (clear hK K; clear hK K; refine hK _ ?_; clear hK K)
        | (clear hK K; clear hK K; clear hK K; refine hK _ ?_; clear hK K)
        | (refine hX _ ?_; clear hX hY X Y)
        | (refine hY _ ?_; clear hX hY X Y)
        | (refine wp2_block ?_)
        | (refine wp1_block ?_)
        | (refine wp2_region ?_)
        | (refine wp1_region ?_)
        | (refine wp2_cond fun X Y hX hY => ?_)
        | (refine wp1_cond fun X Y hX hY => ?_)
        | (refine condK_of (fun c => ?_) (fun c => ?_) <;> (try simp [-List.length_eq_zero_iff] at c))
        | (refine guard1_or (fun c => ?_) (fun c => ?_) <;> (have cc := c) <;> (try simp [-List.length_eq_zero_iff] at cc) <;> (try simp (disch := omega) [s0, s3, s4, o, encC, c]))
        | (refine callT_fl (toC _) (by simp [St.args, St.arg, s0, s3, s4, o, encC] <;> first | rfl | ((repeat' first | rfl | apply And.intro); done)) (by first | (simp [RV.flat, RV.flats, T.flat]; done) | ((repeat' first | exact flat_intRow _ | exact flat_boolRow _ | exact trivial | constructor | unfold RV.flat | unfold RV.flats); done)) (by simp [mutsOf]) ?_)
        | (simp (disch := omega) [s0, s3, s4, o, encC]))
      all_goals try (simp [s0, s3, s4, o, encC, Back]; done)
      all_goals first
        | omega
        | (refine hK' (l.length - (k + 1)) _ (by omega) ⟨k + 1, ?_⟩
           simp [s0, s3]
           omega)
    · have hkl : k = l.length := by omega
      subst hkl
      repeat' (first
        | (refine wp2_seq fun K hK => ?_)
        | (refine wp1_seq fun K hK => ?_)
        | (refine M_cons fun K hK => ?_)
        | (refine hK _ ?_; clear hK K)
        | (clear hK K; refine hK _ ?_; clear hK K)
        | (clear hK K; clear hK K; refine hK _ ?_; clear hK K)
        | (clear hK K; clear hK K; clear hK K; refine hK _ ?_; clear hK K)
        | (refine hX _ ?_; clear hX hY X Y)
        | (refine hY _ ?_; clear hX hY X Y)
        | (refine wp2_block ?_)
        | (refine wp1_block ?_)
        | (refine wp2_region ?_)
        | (refine wp1_region ?_)
        | (refine wp2_cond fun X Y hX hY => ?_)
        | (refine wp1_cond fun X Y hX hY => ?_)
        | (refine condK_of (fun c => ?_) (fun c => ?_) <;> (try simp [-List.length_eq_zero_iff] at c))
        | (refine guard1_or (fun c => ?_) (fun c => ?_) <;> (have cc := c) <;> (try simp [-List.length_eq_zero_iff] at cc) <;> (try simp (disch := omega) [s0, s3, s4, o, c]))
        | (simp (disch := omega) [s0, s3, s4, o]))
      all_goals try (simp [s0, s3, s4, o, Back]; done)
      all_goals first
        | omega
        | exact hJ _ (by simp [s3]) (by simp [o])
/-- The code of laws.eqWay. -/
def k82 : Code1 :=
  (.seq
    (.region [2, 3] false ([]) [
      ⟨some 2, Op.box 90 (Operand.tmp 0), none⟩,
      ⟨some 3, Op.box 90 (Operand.tmp 1), none⟩,
      ⟨some 4, Op.assign (Operand.const (Value.bool false)), none⟩])
    (.seq
      (.seq
        (.region [] false ([]) [
          ⟨some 5, Op.fieldAddr 90 (Operand.tmp 2) 0, none⟩,
          ⟨some 6, Op.load 2 (Operand.tmp 5), none⟩,
          ⟨some 7, Op.fieldAddr 90 (Operand.tmp 3) 0, none⟩,
          ⟨some 8, Op.load 2 (Operand.tmp 7), none⟩,
          ⟨some 9, Op.binOp BinOp.neq 2 (Operand.tmp 6) (Operand.tmp 8) 2, none⟩])
        (.cond (Operand.tmp 9)
          (.seq
            (.region [] false ([]) [
              ⟨some 4, Op.assign (Operand.const (Value.bool false)), none⟩])
            .ret)
          .skip))
      (.seq
        (.seq
          (.region [] false ([]) [
            ⟨some 10, Op.fieldAddr 90 (Operand.tmp 2) 1, none⟩,
            ⟨some 11, Op.load 4 (Operand.tmp 10), none⟩,
            ⟨some 12, Op.fieldAddr 90 (Operand.tmp 3) 1, none⟩,
            ⟨some 13, Op.load 4 (Operand.tmp 12), none⟩,
            ⟨some 14, Op.binOp BinOp.neq 4 (Operand.tmp 11) (Operand.tmp 13) 4, none⟩])
          (.cond (Operand.tmp 14)
            (.seq
              (.region [] false ([]) [
                ⟨some 4, Op.assign (Operand.const (Value.bool false)), none⟩])
              .ret)
            .skip))
        (.seq
          (.seq
            (.region [19] false ([]) [
              ⟨some 15, Op.fieldAddr 90 (Operand.tmp 2) 2, none⟩,
              ⟨some 16, Op.load 22 (Operand.tmp 15), none⟩,
              ⟨some 17, Op.fieldAddr 90 (Operand.tmp 3) 2, none⟩,
              ⟨some 18, Op.load 22 (Operand.tmp 17), none⟩,
              ⟨some 19, Op.call { callee := Callee.value (Operand.func 24), args := #[Operand.tmp 16, Operand.tmp 18], argTypes := #[22, 22] }, none⟩,
              ⟨some 20, Op.unOp UnOp.not 4 (Operand.tmp 19), none⟩])
            (.cond (Operand.tmp 20)
              (.seq
                (.region [] false ([]) [
                  ⟨some 4, Op.assign (Operand.const (Value.bool false)), none⟩])
                .ret)
              .skip))
          (.seq
            (.seq
              (.region [25] false ([]) [
                ⟨some 21, Op.fieldAddr 90 (Operand.tmp 2) 3, none⟩,
                ⟨some 22, Op.load 22 (Operand.tmp 21), none⟩,
                ⟨some 23, Op.fieldAddr 90 (Operand.tmp 3) 3, none⟩,
                ⟨some 24, Op.load 22 (Operand.tmp 23), none⟩,
                ⟨some 25, Op.call { callee := Callee.value (Operand.func 24), args := #[Operand.tmp 22, Operand.tmp 24], argTypes := #[22, 22] }, none⟩,
                ⟨some 26, Op.unOp UnOp.not 4 (Operand.tmp 25), none⟩])
              (.cond (Operand.tmp 26)
                (.seq
                  (.region [] false ([]) [
                    ⟨some 4, Op.assign (Operand.const (Value.bool false)), none⟩])
                  .ret)
                .skip))
            (.seq
              (.region [] false ([]) [
                ⟨some 4, Op.assign (Operand.const (Value.bool true)), none⟩])
              .ret))))))
theorem eqW (w : Way) (h1 : w.nodes.length ≤ 1048576) (h2 : w.lens.length ≤ 1048576) : CallsF Try.prog 82 [.agg (encW w), .agg (encW w)] (.t (.v (.bool true))) [] := by
  refine callsF_of_wp1 (fn := Try.f82) (k := k82) (fun _ => []) mixed (by kernel_rfl) rfl (by kernel_rfl) (by kernel_rfl) (by kernel_rfl) rfl (by simp [Try.f82]) (by simp [Arg.like]) ?_
  generalize hst : St.enter [.agg (encW w), .agg (encW w)] = st0
  have t0 : st0.tm 0 = .agg ((encW w) |>.map .t) := by rw [← hst]; rfl
  have t1 : st0.tm 1 = .agg ((encW w) |>.map .t) := by rw [← hst]; rfl
  clear hst
  unfold k82
  simp [encW] at t0 t1
  repeat' (first
    | (refine wp2_seq fun K hK => ?_)
    | (refine wp1_seq fun K hK => ?_)
    | (refine M_cons fun K hK => ?_)
    | (refine hK _ ?_; clear hK K)
    | (clear hK K; refine hK _ ?_; clear hK K)
    | (clear hK K; clear hK K; refine hK _ ?_; clear hK K)
    | (clear hK K; clear hK K; clear hK K; refine hK _ ?_; clear hK K)
    | (refine hX _ ?_; clear hX hY X Y)
    | (refine hY _ ?_; clear hX hY X Y)
    | (refine wp2_block ?_)
    | (refine wp1_block ?_)
    | (refine wp2_region ?_)
    | (refine wp1_region ?_)
    | (refine wp2_cond fun X Y hX hY => ?_)
    | (refine wp1_cond fun X Y hX hY => ?_)
    | (refine condK_of (fun c => ?_) (fun c => ?_) <;> (try simp [-List.length_eq_zero_iff] at c))
    | (refine guard1_or (fun c => ?_) (fun c => ?_) <;> (have cc := c) <;> (try simp [-List.length_eq_zero_iff] at cc) <;> (try simp (disch := omega) [t0, t1, c]))
    | (refine callT_fl (eqI _ _ ?_ ?_) (by simp [St.args, St.arg, t0, t1] <;> first | rfl | ((repeat' first | rfl | apply And.intro); done)) (by first | (simp [RV.flat, RV.flats, T.flat]; done) | ((repeat' first | exact flat_intRow _ | exact flat_boolRow _ | exact trivial | constructor | unfold RV.flat | unfold RV.flats); done)) (by simp [mutsOf]) ?_; omega; omega)
    | (simp (disch := omega) [t0, t1]))
  all_goals try (simp [t0, t1, Back]; done)
/-- The code of laws.eqRelation. -/
def k83 : Code1 :=
  (.seq
    (.region [2, 3] false ([]) [
      ⟨some 2, Op.box 94 (Operand.tmp 0), none⟩,
      ⟨some 3, Op.box 94 (Operand.tmp 1), none⟩,
      ⟨some 4, Op.assign (Operand.const (Value.bool false)), none⟩])
    (.seq
      (.seq
        (.region [] false ([]) [
          ⟨some 5, Op.fieldAddr 94 (Operand.tmp 2) 0, none⟩,
          ⟨some 6, Op.load 2 (Operand.tmp 5), none⟩,
          ⟨some 7, Op.fieldAddr 94 (Operand.tmp 3) 0, none⟩,
          ⟨some 8, Op.load 2 (Operand.tmp 7), none⟩,
          ⟨some 9, Op.binOp BinOp.neq 2 (Operand.tmp 6) (Operand.tmp 8) 2, none⟩])
        (.cond (Operand.tmp 9)
          (.seq
            (.region [] false ([]) [
              ⟨some 4, Op.assign (Operand.const (Value.bool false)), none⟩])
            .ret)
          .skip))
      (.seq
        (.seq
          (.region [] false ([]) [
            ⟨some 10, Op.fieldAddr 94 (Operand.tmp 2) 1, none⟩,
            ⟨some 11, Op.load 4 (Operand.tmp 10), none⟩,
            ⟨some 12, Op.fieldAddr 94 (Operand.tmp 3) 1, none⟩,
            ⟨some 13, Op.load 4 (Operand.tmp 12), none⟩,
            ⟨some 14, Op.binOp BinOp.neq 4 (Operand.tmp 11) (Operand.tmp 13) 4, none⟩])
          (.cond (Operand.tmp 14)
            (.seq
              (.region [] false ([]) [
                ⟨some 4, Op.assign (Operand.const (Value.bool false)), none⟩])
              .ret)
            .skip))
        (.seq
          (.seq
            (.region [] false ([]) [
              ⟨some 15, Op.fieldAddr 94 (Operand.tmp 2) 2, none⟩,
              ⟨some 16, Op.load 2 (Operand.tmp 15), none⟩,
              ⟨some 17, Op.fieldAddr 94 (Operand.tmp 3) 2, none⟩,
              ⟨some 18, Op.load 2 (Operand.tmp 17), none⟩,
              ⟨some 19, Op.binOp BinOp.neq 2 (Operand.tmp 16) (Operand.tmp 18) 2, none⟩])
            (.cond (Operand.tmp 19)
              (.seq
                (.region [] false ([]) [
                  ⟨some 4, Op.assign (Operand.const (Value.bool false)), none⟩])
                .ret)
              .skip))
          (.seq
            (.seq
              (.region [] false ([]) [
                ⟨some 20, Op.fieldAddr 94 (Operand.tmp 2) 3, none⟩,
                ⟨some 21, Op.load 2 (Operand.tmp 20), none⟩,
                ⟨some 22, Op.fieldAddr 94 (Operand.tmp 3) 3, none⟩,
                ⟨some 23, Op.load 2 (Operand.tmp 22), none⟩,
                ⟨some 24, Op.binOp BinOp.neq 2 (Operand.tmp 21) (Operand.tmp 23) 2, none⟩])
              (.cond (Operand.tmp 24)
                (.seq
                  (.region [] false ([]) [
                    ⟨some 4, Op.assign (Operand.const (Value.bool false)), none⟩])
                  .ret)
                .skip))
            (.seq
              (.seq
                (.region [] false ([]) [
                  ⟨some 25, Op.fieldAddr 94 (Operand.tmp 2) 4, none⟩,
                  ⟨some 26, Op.load 4 (Operand.tmp 25), none⟩,
                  ⟨some 27, Op.fieldAddr 94 (Operand.tmp 3) 4, none⟩,
                  ⟨some 28, Op.load 4 (Operand.tmp 27), none⟩,
                  ⟨some 29, Op.binOp BinOp.neq 4 (Operand.tmp 26) (Operand.tmp 28) 4, none⟩])
                (.cond (Operand.tmp 29)
                  (.seq
                    (.region [] false ([]) [
                      ⟨some 4, Op.assign (Operand.const (Value.bool false)), none⟩])
                    .ret)
                  .skip))
              (.seq
                (.seq
                  (.region [] false ([]) [
                    ⟨some 30, Op.fieldAddr 94 (Operand.tmp 2) 5, none⟩,
                    ⟨some 31, Op.load 2 (Operand.tmp 30), none⟩,
                    ⟨some 32, Op.fieldAddr 94 (Operand.tmp 3) 5, none⟩,
                    ⟨some 33, Op.load 2 (Operand.tmp 32), none⟩,
                    ⟨some 34, Op.binOp BinOp.neq 2 (Operand.tmp 31) (Operand.tmp 33) 2, none⟩])
                  (.cond (Operand.tmp 34)
                    (.seq
                      (.region [] false ([]) [
                        ⟨some 4, Op.assign (Operand.const (Value.bool false)), none⟩])
                      .ret)
                    .skip))
                (.seq
                  (.seq
                    (.region [39] false ([]) [
                      ⟨some 35, Op.fieldAddr 94 (Operand.tmp 2) 6, none⟩,
                      ⟨some 36, Op.load 22 (Operand.tmp 35), none⟩,
                      ⟨some 37, Op.fieldAddr 94 (Operand.tmp 3) 6, none⟩,
                      ⟨some 38, Op.load 22 (Operand.tmp 37), none⟩,
                      ⟨some 39, Op.call { callee := Callee.value (Operand.func 24), args := #[Operand.tmp 36, Operand.tmp 38], argTypes := #[22, 22] }, none⟩,
                      ⟨some 40, Op.unOp UnOp.not 4 (Operand.tmp 39), none⟩])
                    (.cond (Operand.tmp 40)
                      (.seq
                        (.region [] false ([]) [
                          ⟨some 4, Op.assign (Operand.const (Value.bool false)), none⟩])
                        .ret)
                      .skip))
                  (.seq
                    (.region [] false ([]) [
                      ⟨some 4, Op.assign (Operand.const (Value.bool true)), none⟩])
                    .ret)))))))))
theorem eqR (r : Rln) (h1 : r.via.length ≤ 1048576) : CallsF Try.prog 83 [.agg (encR r), .agg (encR r)] (.t (.v (.bool true))) [] := by
  refine callsF_of_wp1 (fn := Try.f83) (k := k83) (fun _ => []) mixed (by kernel_rfl) rfl (by kernel_rfl) (by kernel_rfl) (by kernel_rfl) rfl (by simp [Try.f83]) (by simp [Arg.like]) ?_
  generalize hst : St.enter [.agg (encR r), .agg (encR r)] = st0
  have t0 : st0.tm 0 = .agg ((encR r) |>.map .t) := by rw [← hst]; rfl
  have t1 : st0.tm 1 = .agg ((encR r) |>.map .t) := by rw [← hst]; rfl
  clear hst
  unfold k83
  simp [encR] at t0 t1
  repeat' (first
    | (refine wp2_seq fun K hK => ?_)
    | (refine wp1_seq fun K hK => ?_)
    | (refine M_cons fun K hK => ?_)
    | (refine hK _ ?_; clear hK K)
    | (clear hK K; refine hK _ ?_; clear hK K)
    | (clear hK K; clear hK K; refine hK _ ?_; clear hK K)
    | (clear hK K; clear hK K; clear hK K; refine hK _ ?_; clear hK K)
    | (refine hX _ ?_; clear hX hY X Y)
    | (refine hY _ ?_; clear hX hY X Y)
    | (refine wp2_block ?_)
    | (refine wp1_block ?_)
    | (refine wp2_region ?_)
    | (refine wp1_region ?_)
    | (refine wp2_cond fun X Y hX hY => ?_)
    | (refine wp1_cond fun X Y hX hY => ?_)
    | (refine condK_of (fun c => ?_) (fun c => ?_) <;> (try simp [-List.length_eq_zero_iff] at c))
    | (refine guard1_or (fun c => ?_) (fun c => ?_) <;> (have cc := c) <;> (try simp [-List.length_eq_zero_iff] at cc) <;> (try simp (disch := omega) [t0, t1, c]))
    | (refine callT_fl (eqI _ _ ?_ ?_) (by simp [St.args, St.arg, t0, t1] <;> first | rfl | ((repeat' first | rfl | apply And.intro); done)) (by first | (simp [RV.flat, RV.flats, T.flat]; done) | ((repeat' first | exact flat_intRow _ | exact flat_boolRow _ | exact trivial | constructor | unfold RV.flat | unfold RV.flats); done)) (by simp [mutsOf]) ?_; omega; omega)
    | (simp (disch := omega) [t0, t1]))
  all_goals try (simp [t0, t1, Back]; done)
/-- The code of laws.eqTurnCost. -/
def k84 : Code1 :=
  (.seq
    (.region [2, 3] false ([]) [
      ⟨some 2, Op.box 96 (Operand.tmp 0), none⟩,
      ⟨some 3, Op.box 96 (Operand.tmp 1), none⟩,
      ⟨some 4, Op.assign (Operand.const (Value.bool false)), none⟩])
    (.seq
      (.seq
        (.region [] false ([]) [
          ⟨some 5, Op.fieldAddr 96 (Operand.tmp 2) 0, none⟩,
          ⟨some 6, Op.load 2 (Operand.tmp 5), none⟩,
          ⟨some 7, Op.fieldAddr 96 (Operand.tmp 3) 0, none⟩,
          ⟨some 8, Op.load 2 (Operand.tmp 7), none⟩,
          ⟨some 9, Op.binOp BinOp.neq 2 (Operand.tmp 6) (Operand.tmp 8) 2, none⟩])
        (.cond (Operand.tmp 9)
          (.seq
            (.region [] false ([]) [
              ⟨some 4, Op.assign (Operand.const (Value.bool false)), none⟩])
            .ret)
          .skip))
      (.seq
        (.seq
          (.region [] false ([]) [
            ⟨some 10, Op.fieldAddr 96 (Operand.tmp 2) 1, none⟩,
            ⟨some 11, Op.load 2 (Operand.tmp 10), none⟩,
            ⟨some 12, Op.fieldAddr 96 (Operand.tmp 3) 1, none⟩,
            ⟨some 13, Op.load 2 (Operand.tmp 12), none⟩,
            ⟨some 14, Op.binOp BinOp.neq 2 (Operand.tmp 11) (Operand.tmp 13) 2, none⟩])
          (.cond (Operand.tmp 14)
            (.seq
              (.region [] false ([]) [
                ⟨some 4, Op.assign (Operand.const (Value.bool false)), none⟩])
              .ret)
            .skip))
        (.seq
          (.seq
            (.region [] false ([]) [
              ⟨some 15, Op.fieldAddr 96 (Operand.tmp 2) 2, none⟩,
              ⟨some 16, Op.load 2 (Operand.tmp 15), none⟩,
              ⟨some 17, Op.fieldAddr 96 (Operand.tmp 3) 2, none⟩,
              ⟨some 18, Op.load 2 (Operand.tmp 17), none⟩,
              ⟨some 19, Op.binOp BinOp.neq 2 (Operand.tmp 16) (Operand.tmp 18) 2, none⟩])
            (.cond (Operand.tmp 19)
              (.seq
                (.region [] false ([]) [
                  ⟨some 4, Op.assign (Operand.const (Value.bool false)), none⟩])
                .ret)
              .skip))
          (.seq
            (.region [] false ([]) [
              ⟨some 4, Op.assign (Operand.const (Value.bool true)), none⟩])
            .ret)))))
theorem eqC (t : Tc) : CallsF Try.prog 84 [.agg (encC t), .agg (encC t)] (.t (.v (.bool true))) [] := by
  refine callsF_of_wp1 (fn := Try.f84) (k := k84) (fun _ => []) mixed (by kernel_rfl) rfl (by kernel_rfl) (by kernel_rfl) (by kernel_rfl) rfl (by simp [Try.f84]) (by simp [Arg.like]) ?_
  generalize hst : St.enter [.agg (encC t), .agg (encC t)] = st0
  have t0 : st0.tm 0 = .agg ((encC t) |>.map .t) := by rw [← hst]; rfl
  have t1 : st0.tm 1 = .agg ((encC t) |>.map .t) := by rw [← hst]; rfl
  clear hst
  unfold k84
  simp [encC] at t0 t1
  repeat' (first
    | (refine wp2_seq fun K hK => ?_)
    | (refine wp1_seq fun K hK => ?_)
    | (refine M_cons fun K hK => ?_)
    | (refine hK _ ?_; clear hK K)
    | (clear hK K; refine hK _ ?_; clear hK K)
    | (clear hK K; clear hK K; refine hK _ ?_; clear hK K)
    | (clear hK K; clear hK K; clear hK K; refine hK _ ?_; clear hK K)
    | (refine hX _ ?_; clear hX hY X Y)
    | (refine hY _ ?_; clear hX hY X Y)
    | (refine wp2_block ?_)
    | (refine wp1_block ?_)
    | (refine wp2_region ?_)
    | (refine wp1_region ?_)
    | (refine wp2_cond fun X Y hX hY => ?_)
    | (refine wp1_cond fun X Y hX hY => ?_)
    | (refine condK_of (fun c => ?_) (fun c => ?_) <;> (try simp [-List.length_eq_zero_iff] at c))
    | (refine guard1_or (fun c => ?_) (fun c => ?_) <;> (have cc := c) <;> (try simp [-List.length_eq_zero_iff] at cc) <;> (try simp (disch := omega) [t0, t1, c]))
    | (simp (disch := omega) [t0, t1]))
  all_goals try (simp [t0, t1, Back]; done)
/-- The code of laws.eqWayS. -/
def k70 : Code1 :=
  (.seq
    (.region [] false ([]) [
      ⟨some 4, Op.assign (Operand.const (Value.bool false)), none⟩])
    (.seq
      (.seq
        (.region [] false ([]) [
          ⟨some 6, Op.move (Operand.tmp 0), none⟩,
          ⟨some 7, Op.call { callee := Callee.builtin Builtin.len, args := #[Operand.tmp 6], argTypes := #[58] }, none⟩,
          ⟨some 8, Op.move (Operand.tmp 1), none⟩,
          ⟨some 9, Op.call { callee := Callee.builtin Builtin.len, args := #[Operand.tmp 8], argTypes := #[58] }, none⟩,
          ⟨some 10, Op.binOp BinOp.neq 3 (Operand.tmp 7) (Operand.tmp 9) 3, none⟩])
        (.cond (Operand.tmp 10)
          (.seq
            (.region [] false ([]) [
              ⟨some 4, Op.assign (Operand.const (Value.bool false)), none⟩])
            .ret)
          .skip))
      (.seq
        (.seq
          (.region [] false ([]) [
            ⟨some 5, Op.assign (Operand.const (Value.int IntKind.i64 0)), none⟩])
          (.block 0
            (.loop
              (.seq
                (.seq
                  (.region [] false ([]) [
                    ⟨some 11, Op.move (Operand.tmp 5), none⟩,
                    ⟨some 12, Op.move (Operand.tmp 0), none⟩,
                    ⟨some 13, Op.call { callee := Callee.builtin Builtin.len, args := #[Operand.tmp 12], argTypes := #[58] }, none⟩,
                    ⟨some 14, Op.binOp BinOp.lss 3 (Operand.tmp 11) (Operand.tmp 13) 3, none⟩])
                  (.cond (Operand.tmp 14)
                    .skip
                    (.exit 0)))
                (.seq
                  (.block 1
                    (.seq
                      (.region [25] true ([]) [
                        ⟨some 17, Op.move (Operand.tmp 0), none⟩,
                        ⟨some 18, Op.move (Operand.tmp 5), none⟩,
                        ⟨some 19, Op.indexAddr 58 (Operand.tmp 17) (Operand.tmp 18), none⟩,
                        ⟨some 20, Op.load 90 (Operand.tmp 19), none⟩,
                        ⟨some 21, Op.move (Operand.tmp 1), none⟩,
                        ⟨some 22, Op.move (Operand.tmp 5), none⟩,
                        ⟨some 23, Op.indexAddr 58 (Operand.tmp 21) (Operand.tmp 22), none⟩,
                        ⟨some 24, Op.load 90 (Operand.tmp 23), none⟩,
                        ⟨some 25, Op.call { callee := Callee.value (Operand.func 82), args := #[Operand.tmp 20, Operand.tmp 24], argTypes := #[90, 90] }, none⟩,
                        ⟨some 26, Op.unOp UnOp.not 4 (Operand.tmp 25), none⟩])
                      (.cond (Operand.tmp 26)
                        (.seq
                          (.region [] false ([]) [
                            ⟨some 4, Op.assign (Operand.const (Value.bool false)), none⟩])
                          .ret)
                        .skip)))
                  (.region [] false ([]) [
                    ⟨some 15, Op.move (Operand.tmp 5), none⟩,
                    ⟨some 16, Op.binOp BinOp.add 3 (Operand.tmp 15) (Operand.const (Value.int IntKind.i64 1)) 3, none⟩,
                    ⟨some 5, Op.assign (Operand.tmp 16), none⟩]))))))
        (.seq
          (.region [] false ([]) [
            ⟨some 4, Op.assign (Operand.const (Value.bool true)), none⟩])
          .ret))))
theorem eqWs (l : List Way) (hl : l.length ≤ 1048576) (h1 : ∀ i : Nat, i < l.length → (nth l i).nodes.length ≤ 1048576) (h2 : ∀ i : Nat, i < l.length → (nth l i).lens.length ≤ 1048576) :
    CallsF Try.prog 70 [.val (recs encW l), .val (recs encW l)] (.t (.v (.bool true))) [] := by
  refine callsF_of_wp1 (fn := Try.f70) (k := k70) (fun _ => []) mixed (by kernel_rfl) rfl (by kernel_rfl) (by kernel_rfl) (by kernel_rfl) rfl (by simp [Try.f70]) (by simp [Arg.like]) ?_
  generalize hst : St.enter [.val (recs encW l), .val (recs encW l)] = st0
  have t0 : st0.tm 0 = .t (recs encW l) := by rw [← hst]; rfl
  have t1 : st0.tm 1 = .t (recs encW l) := by rw [← hst]; rfl
  clear hst
  unfold k70
  repeat' (first
    | (refine wp2_seq fun K hK => ?_)
    | (refine wp1_seq fun K hK => ?_)
    | (refine M_cons fun K hK => ?_)
    | (refine hK _ ?_; clear hK K)
    | (clear hK K; refine hK _ ?_; clear hK K)
    | (clear hK K; clear hK K; refine hK _ ?_; clear hK K)
    | (clear hK K; clear hK K; clear hK K; refine hK _ ?_; clear hK K)
    | (refine hX _ ?_; clear hX hY X Y)
    | (refine hY _ ?_; clear hX hY X Y)
    | (refine wp2_block ?_)
    | (refine wp1_block ?_)
    | (refine wp2_region ?_)
    | (refine wp1_region ?_)
    | (refine wp2_cond fun X Y hX hY => ?_)
    | (refine wp1_cond fun X Y hX hY => ?_)
    | (refine condK_of (fun c => ?_) (fun c => ?_) <;> (try simp [-List.length_eq_zero_iff] at c))
    | (refine guard1_or (fun c => ?_) (fun c => ?_) <;> (have cc := c) <;> (try simp [-List.length_eq_zero_iff] at cc) <;> (try simp (disch := omega) [t0, t1, c]))
    | (simp (disch := omega) [t0, t1]))
  all_goals try (simp [t0, t1, Back]; done)
  have hJ : ∀ s, K s := by
    rintro s
    repeat' (first
      | (refine wp2_seq fun K hK => ?_)
      | (refine wp1_seq fun K hK => ?_)
      | (refine M_cons fun K hK => ?_)
      | (refine hK _ ?_; clear hK K)
      | (clear hK K; refine hK _ ?_; clear hK K)
      | (clear hK K; clear hK K; refine hK _ ?_; clear hK K)
      | (clear hK K; clear hK K; clear hK K; refine hK _ ?_; clear hK K)
      | (refine hX _ ?_; clear hX hY X Y)
      | (refine hY _ ?_; clear hX hY X Y)
      | (refine wp2_block ?_)
      | (refine wp1_block ?_)
      | (refine wp2_region ?_)
      | (refine wp1_region ?_)
      | (refine wp2_cond fun X Y hX hY => ?_)
      | (refine wp1_cond fun X Y hX hY => ?_)
      | (refine condK_of (fun c => ?_) (fun c => ?_) <;> (try simp [-List.length_eq_zero_iff] at c))
      | (refine guard1_or (fun c => ?_) (fun c => ?_) <;> (have cc := c) <;> (try simp [-List.length_eq_zero_iff] at cc) <;> (try simp (disch := omega) [c]))
      | (simp (disch := omega) []))
    all_goals try (simp [Back]; done)
  clear hK
  refine wp1_loop (fun n s => ∃ k : Nat, s.tm 0 = .t (recs encW l) ∧ s.tm 1 = .t (recs encW l) ∧ s.tm 5 = .t (.v (.int .i64 k)) ∧ k ≤ l.length ∧ n = l.length - k) l.length ?_ ?_
  · exact ⟨0, by simp [t0, t1]⟩
  · rintro n s ⟨k, s0, s1, s5, hk, rfl⟩ K' hK'
    have g1 := h1 k
    have g2 := h2 k
    by_cases hlt : k < l.length
    · repeat' (first
        | (refine wp2_seq fun K hK => ?_)
        | (refine wp1_seq fun K hK => ?_)
        | (refine M_cons fun K hK => ?_)
        | (refine hK _ ?_; clear hK K)
        | (clear hK K; refine hK _ ?_; clear hK K)
        | (clear hK K; clear hK K; refine hK _ ?_; clear hK K)
        | (clear hK K; clear hK K; clear hK K; refine hK _ ?_; clear hK K)
        | (refine hX _ ?_; clear hX hY X Y)
        | (refine hY _ ?_; clear hX hY X Y)
        | (refine wp2_block ?_)
        | (refine wp1_block ?_)
        | (refine wp2_region ?_)
        | (refine wp1_region ?_)
        | (refine wp2_cond fun X Y hX hY => ?_)
        | (refine wp1_cond fun X Y hX hY => ?_)
        | (refine condK_of (fun c => ?_) (fun c => ?_) <;> (try simp [-List.length_eq_zero_iff] at c))
        | (refine guard1_or (fun c => ?_) (fun c => ?_) <;> (have cc := c) <;> (try simp [-List.length_eq_zero_iff] at cc) <;> (try simp (disch := omega) [s0, s1, s5, encW, c]))
        | (refine callT_fl (eqW _ ?_ ?_) (by simp [St.args, St.arg, s0, s1, s5, encW] <;> first | rfl | ((repeat' first | rfl | apply And.intro); done)) (by first | (simp [RV.flat, RV.flats, T.flat]; done) | ((repeat' first | exact flat_intRow _ | exact flat_boolRow _ | exact trivial | constructor | unfold RV.flat | unfold RV.flats); done)) (by simp [mutsOf]) ?_; omega; omega)
        | (simp (disch := omega) [s0, s1, s5, encW]))
      all_goals try (simp [s0, s1, s5, encW, Back]; done)
      all_goals first
        | omega
        | (refine hK' (l.length - (k + 1)) _ (by omega) ⟨k + 1, ?_⟩
           simp [s0, s1]
           omega)
    · repeat' (first
        | (refine wp2_seq fun K hK => ?_)
        | (refine wp1_seq fun K hK => ?_)
        | (refine M_cons fun K hK => ?_)
        | (refine hK _ ?_; clear hK K)
        | (clear hK K; refine hK _ ?_; clear hK K)
        | (clear hK K; clear hK K; refine hK _ ?_; clear hK K)
        | (clear hK K; clear hK K; clear hK K; refine hK _ ?_; clear hK K)
        | (refine hX _ ?_; clear hX hY X Y)
        | (refine hY _ ?_; clear hX hY X Y)
        | (refine wp2_block ?_)
        | (refine wp1_block ?_)
        | (refine wp2_region ?_)
        | (refine wp1_region ?_)
        | (refine wp2_cond fun X Y hX hY => ?_)
        | (refine wp1_cond fun X Y hX hY => ?_)
        | (refine condK_of (fun c => ?_) (fun c => ?_) <;> (try simp [-List.length_eq_zero_iff] at c))
        | (refine guard1_or (fun c => ?_) (fun c => ?_) <;> (have cc := c) <;> (try simp [-List.length_eq_zero_iff] at cc) <;> (try simp (disch := omega) [s0, s1, s5, c]))
        | (simp (disch := omega) [s0, s1, s5]))
      all_goals try (simp [s0, s1, s5, Back]; done)
      all_goals first
        | omega
        | exact hJ _
/-- The code of laws.eqRelationS. -/
def k71 : Code1 :=
  (.seq
    (.region [] false ([]) [
      ⟨some 4, Op.assign (Operand.const (Value.bool false)), none⟩])
    (.seq
      (.seq
        (.region [] false ([]) [
          ⟨some 6, Op.move (Operand.tmp 0), none⟩,
          ⟨some 7, Op.call { callee := Callee.builtin Builtin.len, args := #[Operand.tmp 6], argTypes := #[59] }, none⟩,
          ⟨some 8, Op.move (Operand.tmp 1), none⟩,
          ⟨some 9, Op.call { callee := Callee.builtin Builtin.len, args := #[Operand.tmp 8], argTypes := #[59] }, none⟩,
          ⟨some 10, Op.binOp BinOp.neq 3 (Operand.tmp 7) (Operand.tmp 9) 3, none⟩])
        (.cond (Operand.tmp 10)
          (.seq
            (.region [] false ([]) [
              ⟨some 4, Op.assign (Operand.const (Value.bool false)), none⟩])
            .ret)
          .skip))
      (.seq
        (.seq
          (.region [] false ([]) [
            ⟨some 5, Op.assign (Operand.const (Value.int IntKind.i64 0)), none⟩])
          (.block 0
            (.loop
              (.seq
                (.seq
                  (.region [] false ([]) [
                    ⟨some 11, Op.move (Operand.tmp 5), none⟩,
                    ⟨some 12, Op.move (Operand.tmp 0), none⟩,
                    ⟨some 13, Op.call { callee := Callee.builtin Builtin.len, args := #[Operand.tmp 12], argTypes := #[59] }, none⟩,
                    ⟨some 14, Op.binOp BinOp.lss 3 (Operand.tmp 11) (Operand.tmp 13) 3, none⟩])
                  (.cond (Operand.tmp 14)
                    .skip
                    (.exit 0)))
                (.seq
                  (.block 1
                    (.seq
                      (.region [25] true ([]) [
                        ⟨some 17, Op.move (Operand.tmp 0), none⟩,
                        ⟨some 18, Op.move (Operand.tmp 5), none⟩,
                        ⟨some 19, Op.indexAddr 59 (Operand.tmp 17) (Operand.tmp 18), none⟩,
                        ⟨some 20, Op.load 94 (Operand.tmp 19), none⟩,
                        ⟨some 21, Op.move (Operand.tmp 1), none⟩,
                        ⟨some 22, Op.move (Operand.tmp 5), none⟩,
                        ⟨some 23, Op.indexAddr 59 (Operand.tmp 21) (Operand.tmp 22), none⟩,
                        ⟨some 24, Op.load 94 (Operand.tmp 23), none⟩,
                        ⟨some 25, Op.call { callee := Callee.value (Operand.func 83), args := #[Operand.tmp 20, Operand.tmp 24], argTypes := #[94, 94] }, none⟩,
                        ⟨some 26, Op.unOp UnOp.not 4 (Operand.tmp 25), none⟩])
                      (.cond (Operand.tmp 26)
                        (.seq
                          (.region [] false ([]) [
                            ⟨some 4, Op.assign (Operand.const (Value.bool false)), none⟩])
                          .ret)
                        .skip)))
                  (.region [] false ([]) [
                    ⟨some 15, Op.move (Operand.tmp 5), none⟩,
                    ⟨some 16, Op.binOp BinOp.add 3 (Operand.tmp 15) (Operand.const (Value.int IntKind.i64 1)) 3, none⟩,
                    ⟨some 5, Op.assign (Operand.tmp 16), none⟩]))))))
        (.seq
          (.region [] false ([]) [
            ⟨some 4, Op.assign (Operand.const (Value.bool true)), none⟩])
          .ret))))
theorem eqRs (l : List Rln) (hl : l.length ≤ 1048576) (h1 : ∀ i : Nat, i < l.length → (nth l i).via.length ≤ 1048576) :
    CallsF Try.prog 71 [.val (recs encR l), .val (recs encR l)] (.t (.v (.bool true))) [] := by
  refine callsF_of_wp1 (fn := Try.f71) (k := k71) (fun _ => []) mixed (by kernel_rfl) rfl (by kernel_rfl) (by kernel_rfl) (by kernel_rfl) rfl (by simp [Try.f71]) (by simp [Arg.like]) ?_
  generalize hst : St.enter [.val (recs encR l), .val (recs encR l)] = st0
  have t0 : st0.tm 0 = .t (recs encR l) := by rw [← hst]; rfl
  have t1 : st0.tm 1 = .t (recs encR l) := by rw [← hst]; rfl
  clear hst
  unfold k71
  repeat' (first
    | (refine wp2_seq fun K hK => ?_)
    | (refine wp1_seq fun K hK => ?_)
    | (refine M_cons fun K hK => ?_)
    | (refine hK _ ?_; clear hK K)
    | (clear hK K; refine hK _ ?_; clear hK K)
    | (clear hK K; clear hK K; refine hK _ ?_; clear hK K)
    | (clear hK K; clear hK K; clear hK K; refine hK _ ?_; clear hK K)
    | (refine hX _ ?_; clear hX hY X Y)
    | (refine hY _ ?_; clear hX hY X Y)
    | (refine wp2_block ?_)
    | (refine wp1_block ?_)
    | (refine wp2_region ?_)
    | (refine wp1_region ?_)
    | (refine wp2_cond fun X Y hX hY => ?_)
    | (refine wp1_cond fun X Y hX hY => ?_)
    | (refine condK_of (fun c => ?_) (fun c => ?_) <;> (try simp [-List.length_eq_zero_iff] at c))
    | (refine guard1_or (fun c => ?_) (fun c => ?_) <;> (have cc := c) <;> (try simp [-List.length_eq_zero_iff] at cc) <;> (try simp (disch := omega) [t0, t1, c]))
    | (simp (disch := omega) [t0, t1]))
  all_goals try (simp [t0, t1, Back]; done)
  have hJ : ∀ s, K s := by
    rintro s
    repeat' (first
      | (refine wp2_seq fun K hK => ?_)
      | (refine wp1_seq fun K hK => ?_)
      | (refine M_cons fun K hK => ?_)
      | (refine hK _ ?_; clear hK K)
      | (clear hK K; refine hK _ ?_; clear hK K)
      | (clear hK K; clear hK K; refine hK _ ?_; clear hK K)
      | (clear hK K; clear hK K; clear hK K; refine hK _ ?_; clear hK K)
      | (refine hX _ ?_; clear hX hY X Y)
      | (refine hY _ ?_; clear hX hY X Y)
      | (refine wp2_block ?_)
      | (refine wp1_block ?_)
      | (refine wp2_region ?_)
      | (refine wp1_region ?_)
      | (refine wp2_cond fun X Y hX hY => ?_)
      | (refine wp1_cond fun X Y hX hY => ?_)
      | (refine condK_of (fun c => ?_) (fun c => ?_) <;> (try simp [-List.length_eq_zero_iff] at c))
      | (refine guard1_or (fun c => ?_) (fun c => ?_) <;> (have cc := c) <;> (try simp [-List.length_eq_zero_iff] at cc) <;> (try simp (disch := omega) [c]))
      | (simp (disch := omega) []))
    all_goals try (simp [Back]; done)
  clear hK
  refine wp1_loop (fun n s => ∃ k : Nat, s.tm 0 = .t (recs encR l) ∧ s.tm 1 = .t (recs encR l) ∧ s.tm 5 = .t (.v (.int .i64 k)) ∧ k ≤ l.length ∧ n = l.length - k) l.length ?_ ?_
  · exact ⟨0, by simp [t0, t1]⟩
  · rintro n s ⟨k, s0, s1, s5, hk, rfl⟩ K' hK'
    have g1 := h1 k
    by_cases hlt : k < l.length
    · repeat' (first
        | (refine wp2_seq fun K hK => ?_)
        | (refine wp1_seq fun K hK => ?_)
        | (refine M_cons fun K hK => ?_)
        | (refine hK _ ?_; clear hK K)
        | (clear hK K; refine hK _ ?_; clear hK K)
        | (clear hK K; clear hK K; refine hK _ ?_; clear hK K)
        | (clear hK K; clear hK K; clear hK K; refine hK _ ?_; clear hK K)
        | (refine hX _ ?_; clear hX hY X Y)
        | (refine hY _ ?_; clear hX hY X Y)
        | (refine wp2_block ?_)
        | (refine wp1_block ?_)
        | (refine wp2_region ?_)
        | (refine wp1_region ?_)
        | (refine wp2_cond fun X Y hX hY => ?_)
        | (refine wp1_cond fun X Y hX hY => ?_)
        | (refine condK_of (fun c => ?_) (fun c => ?_) <;> (try simp [-List.length_eq_zero_iff] at c))
        | (refine guard1_or (fun c => ?_) (fun c => ?_) <;> (have cc := c) <;> (try simp [-List.length_eq_zero_iff] at cc) <;> (try simp (disch := omega) [s0, s1, s5, encR, c]))
        | (refine callT_fl (eqR _ ?_) (by simp [St.args, St.arg, s0, s1, s5, encR] <;> first | rfl | ((repeat' first | rfl | apply And.intro); done)) (by first | (simp [RV.flat, RV.flats, T.flat]; done) | ((repeat' first | exact flat_intRow _ | exact flat_boolRow _ | exact trivial | constructor | unfold RV.flat | unfold RV.flats); done)) (by simp [mutsOf]) ?_; omega)
        | (simp (disch := omega) [s0, s1, s5, encR]))
      all_goals try (simp [s0, s1, s5, encR, Back]; done)
      all_goals first
        | omega
        | (refine hK' (l.length - (k + 1)) _ (by omega) ⟨k + 1, ?_⟩
           simp [s0, s1]
           omega)
    · repeat' (first
        | (refine wp2_seq fun K hK => ?_)
        | (refine wp1_seq fun K hK => ?_)
        | (refine M_cons fun K hK => ?_)
        | (refine hK _ ?_; clear hK K)
        | (clear hK K; refine hK _ ?_; clear hK K)
        | (clear hK K; clear hK K; refine hK _ ?_; clear hK K)
        | (clear hK K; clear hK K; clear hK K; refine hK _ ?_; clear hK K)
        | (refine hX _ ?_; clear hX hY X Y)
        | (refine hY _ ?_; clear hX hY X Y)
        | (refine wp2_block ?_)
        | (refine wp1_block ?_)
        | (refine wp2_region ?_)
        | (refine wp1_region ?_)
        | (refine wp2_cond fun X Y hX hY => ?_)
        | (refine wp1_cond fun X Y hX hY => ?_)
        | (refine condK_of (fun c => ?_) (fun c => ?_) <;> (try simp [-List.length_eq_zero_iff] at c))
        | (refine guard1_or (fun c => ?_) (fun c => ?_) <;> (have cc := c) <;> (try simp [-List.length_eq_zero_iff] at cc) <;> (try simp (disch := omega) [s0, s1, s5, c]))
        | (simp (disch := omega) [s0, s1, s5]))
      all_goals try (simp [s0, s1, s5, Back]; done)
      all_goals first
        | omega
        | exact hJ _
/-- The code of laws.eqTurnCostS. -/
def k72 : Code1 :=
  (.seq
    (.region [] false ([]) [
      ⟨some 4, Op.assign (Operand.const (Value.bool false)), none⟩])
    (.seq
      (.seq
        (.region [] false ([]) [
          ⟨some 6, Op.move (Operand.tmp 0), none⟩,
          ⟨some 7, Op.call { callee := Callee.builtin Builtin.len, args := #[Operand.tmp 6], argTypes := #[60] }, none⟩,
          ⟨some 8, Op.move (Operand.tmp 1), none⟩,
          ⟨some 9, Op.call { callee := Callee.builtin Builtin.len, args := #[Operand.tmp 8], argTypes := #[60] }, none⟩,
          ⟨some 10, Op.binOp BinOp.neq 3 (Operand.tmp 7) (Operand.tmp 9) 3, none⟩])
        (.cond (Operand.tmp 10)
          (.seq
            (.region [] false ([]) [
              ⟨some 4, Op.assign (Operand.const (Value.bool false)), none⟩])
            .ret)
          .skip))
      (.seq
        (.seq
          (.region [] false ([]) [
            ⟨some 5, Op.assign (Operand.const (Value.int IntKind.i64 0)), none⟩])
          (.block 0
            (.loop
              (.seq
                (.seq
                  (.region [] false ([]) [
                    ⟨some 11, Op.move (Operand.tmp 5), none⟩,
                    ⟨some 12, Op.move (Operand.tmp 0), none⟩,
                    ⟨some 13, Op.call { callee := Callee.builtin Builtin.len, args := #[Operand.tmp 12], argTypes := #[60] }, none⟩,
                    ⟨some 14, Op.binOp BinOp.lss 3 (Operand.tmp 11) (Operand.tmp 13) 3, none⟩])
                  (.cond (Operand.tmp 14)
                    .skip
                    (.exit 0)))
                (.seq
                  (.block 1
                    (.seq
                      (.region [25] true ([]) [
                        ⟨some 17, Op.move (Operand.tmp 0), none⟩,
                        ⟨some 18, Op.move (Operand.tmp 5), none⟩,
                        ⟨some 19, Op.indexAddr 60 (Operand.tmp 17) (Operand.tmp 18), none⟩,
                        ⟨some 20, Op.load 96 (Operand.tmp 19), none⟩,
                        ⟨some 21, Op.move (Operand.tmp 1), none⟩,
                        ⟨some 22, Op.move (Operand.tmp 5), none⟩,
                        ⟨some 23, Op.indexAddr 60 (Operand.tmp 21) (Operand.tmp 22), none⟩,
                        ⟨some 24, Op.load 96 (Operand.tmp 23), none⟩,
                        ⟨some 25, Op.call { callee := Callee.value (Operand.func 84), args := #[Operand.tmp 20, Operand.tmp 24], argTypes := #[96, 96] }, none⟩,
                        ⟨some 26, Op.unOp UnOp.not 4 (Operand.tmp 25), none⟩])
                      (.cond (Operand.tmp 26)
                        (.seq
                          (.region [] false ([]) [
                            ⟨some 4, Op.assign (Operand.const (Value.bool false)), none⟩])
                          .ret)
                        .skip)))
                  (.region [] false ([]) [
                    ⟨some 15, Op.move (Operand.tmp 5), none⟩,
                    ⟨some 16, Op.binOp BinOp.add 3 (Operand.tmp 15) (Operand.const (Value.int IntKind.i64 1)) 3, none⟩,
                    ⟨some 5, Op.assign (Operand.tmp 16), none⟩]))))))
        (.seq
          (.region [] false ([]) [
            ⟨some 4, Op.assign (Operand.const (Value.bool true)), none⟩])
          .ret))))
theorem eqCs (l : List Tc) (hl : l.length ≤ 1048576)  :
    CallsF Try.prog 72 [.val (recs encC l), .val (recs encC l)] (.t (.v (.bool true))) [] := by
  refine callsF_of_wp1 (fn := Try.f72) (k := k72) (fun _ => []) mixed (by kernel_rfl) rfl (by kernel_rfl) (by kernel_rfl) (by kernel_rfl) rfl (by simp [Try.f72]) (by simp [Arg.like]) ?_
  generalize hst : St.enter [.val (recs encC l), .val (recs encC l)] = st0
  have t0 : st0.tm 0 = .t (recs encC l) := by rw [← hst]; rfl
  have t1 : st0.tm 1 = .t (recs encC l) := by rw [← hst]; rfl
  clear hst
  unfold k72
  repeat' (first
    | (refine wp2_seq fun K hK => ?_)
    | (refine wp1_seq fun K hK => ?_)
    | (refine M_cons fun K hK => ?_)
    | (refine hK _ ?_; clear hK K)
    | (clear hK K; refine hK _ ?_; clear hK K)
    | (clear hK K; clear hK K; refine hK _ ?_; clear hK K)
    | (clear hK K; clear hK K; clear hK K; refine hK _ ?_; clear hK K)
    | (refine hX _ ?_; clear hX hY X Y)
    | (refine hY _ ?_; clear hX hY X Y)
    | (refine wp2_block ?_)
    | (refine wp1_block ?_)
    | (refine wp2_region ?_)
    | (refine wp1_region ?_)
    | (refine wp2_cond fun X Y hX hY => ?_)
    | (refine wp1_cond fun X Y hX hY => ?_)
    | (refine condK_of (fun c => ?_) (fun c => ?_) <;> (try simp [-List.length_eq_zero_iff] at c))
    | (refine guard1_or (fun c => ?_) (fun c => ?_) <;> (have cc := c) <;> (try simp [-List.length_eq_zero_iff] at cc) <;> (try simp (disch := omega) [t0, t1, c]))
    | (simp (disch := omega) [t0, t1]))
  all_goals try (simp [t0, t1, Back]; done)
  have hJ : ∀ s, K s := by
    rintro s
    repeat' (first
      | (refine wp2_seq fun K hK => ?_)
      | (refine wp1_seq fun K hK => ?_)
      | (refine M_cons fun K hK => ?_)
      | (refine hK _ ?_; clear hK K)
      | (clear hK K; refine hK _ ?_; clear hK K)
      | (clear hK K; clear hK K; refine hK _ ?_; clear hK K)
      | (clear hK K; clear hK K; clear hK K; refine hK _ ?_; clear hK K)
      | (refine hX _ ?_; clear hX hY X Y)
      | (refine hY _ ?_; clear hX hY X Y)
      | (refine wp2_block ?_)
      | (refine wp1_block ?_)
      | (refine wp2_region ?_)
      | (refine wp1_region ?_)
      | (refine wp2_cond fun X Y hX hY => ?_)
      | (refine wp1_cond fun X Y hX hY => ?_)
      | (refine condK_of (fun c => ?_) (fun c => ?_) <;> (try simp [-List.length_eq_zero_iff] at c))
      | (refine guard1_or (fun c => ?_) (fun c => ?_) <;> (have cc := c) <;> (try simp [-List.length_eq_zero_iff] at cc) <;> (try simp (disch := omega) [c]))
      | (simp (disch := omega) []))
    all_goals try (simp [Back]; done)
  clear hK
  refine wp1_loop (fun n s => ∃ k : Nat, s.tm 0 = .t (recs encC l) ∧ s.tm 1 = .t (recs encC l) ∧ s.tm 5 = .t (.v (.int .i64 k)) ∧ k ≤ l.length ∧ n = l.length - k) l.length ?_ ?_
  · exact ⟨0, by simp [t0, t1]⟩
  · rintro n s ⟨k, s0, s1, s5, hk, rfl⟩ K' hK'
    by_cases hlt : k < l.length
    · repeat' (first
        | (refine wp2_seq fun K hK => ?_)
        | (refine wp1_seq fun K hK => ?_)
        | (refine M_cons fun K hK => ?_)
        | (refine hK _ ?_; clear hK K)
        | (clear hK K; refine hK _ ?_; clear hK K)
        | (clear hK K; clear hK K; refine hK _ ?_; clear hK K)
        | (clear hK K; clear hK K; clear hK K; refine hK _ ?_; clear hK K)
        | (refine hX _ ?_; clear hX hY X Y)
        | (refine hY _ ?_; clear hX hY X Y)
        | (refine wp2_block ?_)
        | (refine wp1_block ?_)
        | (refine wp2_region ?_)
        | (refine wp1_region ?_)
        | (refine wp2_cond fun X Y hX hY => ?_)
        | (refine wp1_cond fun X Y hX hY => ?_)
        | (refine condK_of (fun c => ?_) (fun c => ?_) <;> (try simp [-List.length_eq_zero_iff] at c))
        | (refine guard1_or (fun c => ?_) (fun c => ?_) <;> (have cc := c) <;> (try simp [-List.length_eq_zero_iff] at cc) <;> (try simp (disch := omega) [s0, s1, s5, encC, c]))
        | (refine callT_fl (eqC _) (by simp [St.args, St.arg, s0, s1, s5, encC] <;> first | rfl | ((repeat' first | rfl | apply And.intro); done)) (by first | (simp [RV.flat, RV.flats, T.flat]; done) | ((repeat' first | exact flat_intRow _ | exact flat_boolRow _ | exact trivial | constructor | unfold RV.flat | unfold RV.flats); done)) (by simp [mutsOf]) ?_)
        | (simp (disch := omega) [s0, s1, s5, encC]))
      all_goals try (simp [s0, s1, s5, encC, Back]; done)
      all_goals first
        | omega
        | (refine hK' (l.length - (k + 1)) _ (by omega) ⟨k + 1, ?_⟩
           simp [s0, s1]
           omega)
    · repeat' (first
        | (refine wp2_seq fun K hK => ?_)
        | (refine wp1_seq fun K hK => ?_)
        | (refine M_cons fun K hK => ?_)
        | (refine hK _ ?_; clear hK K)
        | (clear hK K; refine hK _ ?_; clear hK K)
        | (clear hK K; clear hK K; refine hK _ ?_; clear hK K)
        | (clear hK K; clear hK K; clear hK K; refine hK _ ?_; clear hK K)
        | (refine hX _ ?_; clear hX hY X Y)
        | (refine hY _ ?_; clear hX hY X Y)
        | (refine wp2_block ?_)
        | (refine wp1_block ?_)
        | (refine wp2_region ?_)
        | (refine wp1_region ?_)
        | (refine wp2_cond fun X Y hX hY => ?_)
        | (refine wp1_cond fun X Y hX hY => ?_)
        | (refine condK_of (fun c => ?_) (fun c => ?_) <;> (try simp [-List.length_eq_zero_iff] at c))
        | (refine guard1_or (fun c => ?_) (fun c => ?_) <;> (have cc := c) <;> (try simp [-List.length_eq_zero_iff] at cc) <;> (try simp (disch := omega) [s0, s1, s5, c]))
        | (simp (disch := omega) [s0, s1, s5]))
      all_goals try (simp [s0, s1, s5, Back]; done)
      all_goals first
        | omega
        | exact hJ _
def rvN (n : Net) : List RV := [.own 1 (intRow n.nodes), .own 4 (recRow encW n.ways), .own 7 (recRow encR n.rels), .own 3 (recRow encC n.tcs), .t (.v (.int .i64 n.uturn))]
/-- The code of laws.toNet. -/
def k38 : Code1 :=
  (.seq
    (.region [1, 2] false ([]) [
      ⟨some 1, Op.box 55 (Operand.tmp 0), none⟩,
      ⟨some 2, Op.alloc 62, none⟩])
    (.seq
      (.region [3] false ([]) [
        ⟨some 3, Op.alloc 62, none⟩])
      (.seq
        (.region [6] false ([]) [
          ⟨some 4, Op.fieldAddr 55 (Operand.tmp 1) 0, none⟩,
          ⟨some 5, Op.load 22 (Operand.tmp 4), none⟩,
          ⟨some 6, Op.call { callee := Callee.value (Operand.func 22), args := #[Operand.tmp 5], argTypes := #[22] }, none⟩,
          ⟨some 7, Op.fieldAddr 62 (Operand.tmp 3) 0, none⟩,
          ⟨none, Op.store 22 (Operand.tmp 7) (Operand.tmp 6), none⟩])
        (.seq
          (.region [10] false ([]) [
            ⟨some 8, Op.fieldAddr 55 (Operand.tmp 1) 1, none⟩,
            ⟨some 9, Op.load 51 (Operand.tmp 8), none⟩,
            ⟨some 10, Op.call { callee := Callee.value (Operand.func 66), args := #[Operand.tmp 9], argTypes := #[51] }, none⟩,
            ⟨some 11, Op.fieldAddr 62 (Operand.tmp 3) 1, none⟩,
            ⟨none, Op.store 58 (Operand.tmp 11) (Operand.tmp 10), none⟩])
          (.seq
            (.region [14] false ([]) [
              ⟨some 12, Op.fieldAddr 55 (Operand.tmp 1) 2, none⟩,
              ⟨some 13, Op.load 52 (Operand.tmp 12), none⟩,
              ⟨some 14, Op.call { callee := Callee.value (Operand.func 67), args := #[Operand.tmp 13], argTypes := #[52] }, none⟩,
              ⟨some 15, Op.fieldAddr 62 (Operand.tmp 3) 2, none⟩,
              ⟨none, Op.store 59 (Operand.tmp 15) (Operand.tmp 14), none⟩])
            (.seq
              (.region [18] false ([]) [
                ⟨some 16, Op.fieldAddr 55 (Operand.tmp 1) 3, none⟩,
                ⟨some 17, Op.load 53 (Operand.tmp 16), none⟩,
                ⟨some 18, Op.call { callee := Callee.value (Operand.func 68), args := #[Operand.tmp 17], argTypes := #[53] }, none⟩,
                ⟨some 19, Op.fieldAddr 62 (Operand.tmp 3) 3, none⟩,
                ⟨none, Op.store 60 (Operand.tmp 19) (Operand.tmp 18), none⟩])
              (.seq
                (.region [] false ([]) [
                  ⟨some 20, Op.fieldAddr 55 (Operand.tmp 1) 4, none⟩,
                  ⟨some 21, Op.load 2 (Operand.tmp 20), none⟩,
                  ⟨some 22, Op.fieldAddr 62 (Operand.tmp 3) 4, none⟩,
                  ⟨none, Op.store 2 (Operand.tmp 22) (Operand.tmp 21), none⟩])
                (.seq
                  (.region [] false ([]) [
                    ⟨some 23, Op.load 62 (Operand.tmp 3), none⟩,
                    ⟨none, Op.store 62 (Operand.tmp 2) (Operand.tmp 23), none⟩])
                  .ret))))))))
set_option maxHeartbeats 1000000 in
theorem toN (n : Net) (h : LN n) : CallsF Try.prog 38 [.agg (encN n)] (.agg (rvN n)) [] := by
  obtain ⟨h1, h2, h3, h4, h5, h6, h7⟩ := h
  refine callsF_of_wp1 (fn := Try.f38) (k := k38) (fun _ => []) mixed (by kernel_rfl) rfl (by kernel_rfl) (by kernel_rfl) (by kernel_rfl) rfl (by simp [Try.f38]) (by simp [Arg.like]) ?_
  generalize hst : St.enter [.agg (encN n)] = st0
  have t0 : st0.tm 0 = .agg ((encN n) |>.map .t) := by rw [← hst]; rfl
  clear hst
  unfold k38
  simp [encN] at t0
  repeat' (first
    | (refine wp2_seq fun K hK => ?_)
    | (refine wp1_seq fun K hK => ?_)
    | (refine M_cons fun K hK => ?_)
    | (refine hK _ ?_; clear hK K)
    | (clear hK K; refine hK _ ?_; clear hK K)
    | (clear hK K; clear hK K; refine hK _ ?_; clear hK K)
    | (clear hK K; clear hK K; clear hK K; refine hK _ ?_; clear hK K)
    | (refine hX _ ?_; clear hX hY X Y)
    | (refine hY _ ?_; clear hX hY X Y)
    | (refine wp2_block ?_)
    | (refine wp1_block ?_)
    | (refine wp2_region ?_)
    | (refine wp1_region ?_)
    | (refine wp2_cond fun X Y hX hY => ?_)
    | (refine wp1_cond fun X Y hX hY => ?_)
    | (refine condK_of (fun c => ?_) (fun c => ?_) <;> (try simp [-List.length_eq_zero_iff] at c))
    | (refine guard1_or (fun c => ?_) (fun c => ?_) <;> (have cc := c) <;> (try simp [-List.length_eq_zero_iff] at cc) <;> (try simp (disch := omega) [t0, c]))
    | (refine callT_fl (toI _ ?_) (by simp [St.args, St.arg, t0] <;> first | rfl | ((repeat' first | rfl | apply And.intro); done)) (by first | (simp [RV.flat, RV.flats, T.flat]; done) | ((repeat' first | exact flat_intRow _ | exact flat_boolRow _ | exact trivial | constructor | unfold RV.flat | unfold RV.flats); done)) (by simp [mutsOf]) ?_; omega)
    | (refine callT_gen false (toWs n.ways h2 h5 h6) (by simp) (by simp [St.args, St.arg, t0] <;> first | rfl | ((repeat' first | rfl | apply And.intro); done)) (by simp [apartArgs, mutsOf, noRow]) (by simp [callFrz, valsOf, outEff]) ?_)
    | (refine callT_gen false (toRs n.rels h3 h7) (by simp) (by simp [St.args, St.arg, t0] <;> first | rfl | ((repeat' first | rfl | apply And.intro); done)) (by simp [apartArgs, mutsOf, noRow]) (by simp [callFrz, valsOf, outEff]) ?_)
    | (refine callT_gen false (toCs n.tcs h4) (by simp) (by simp [St.args, St.arg, t0] <;> first | rfl | ((repeat' first | rfl | apply And.intro); done)) (by simp [apartArgs, mutsOf, noRow]) (by simp [callFrz, valsOf, outEff]) ?_)
    | (simp (disch := omega) [t0]))
  all_goals try (simp [t0, Back]; done)
  simp [Back, rvN]
/-- The code of laws.eqNet. -/
def k40 : Code1 :=
  (.seq
    (.region [2, 3] false ([]) [
      ⟨some 2, Op.box 62 (Operand.tmp 0), none⟩,
      ⟨some 3, Op.box 62 (Operand.tmp 1), none⟩,
      ⟨some 4, Op.assign (Operand.const (Value.bool false)), none⟩])
    (.seq
      (.seq
        (.region [9] false ([]) [
          ⟨some 5, Op.fieldAddr 62 (Operand.tmp 2) 0, none⟩,
          ⟨some 6, Op.load 22 (Operand.tmp 5), none⟩,
          ⟨some 7, Op.fieldAddr 62 (Operand.tmp 3) 0, none⟩,
          ⟨some 8, Op.load 22 (Operand.tmp 7), none⟩,
          ⟨some 9, Op.call { callee := Callee.value (Operand.func 24), args := #[Operand.tmp 6, Operand.tmp 8], argTypes := #[22, 22] }, none⟩,
          ⟨some 10, Op.unOp UnOp.not 4 (Operand.tmp 9), none⟩])
        (.cond (Operand.tmp 10)
          (.seq
            (.region [] false ([]) [
              ⟨some 4, Op.assign (Operand.const (Value.bool false)), none⟩])
            .ret)
          .skip))
      (.seq
        (.seq
          (.region [15] false ([]) [
            ⟨some 11, Op.fieldAddr 62 (Operand.tmp 2) 1, none⟩,
            ⟨some 12, Op.load 58 (Operand.tmp 11), none⟩,
            ⟨some 13, Op.fieldAddr 62 (Operand.tmp 3) 1, none⟩,
            ⟨some 14, Op.load 58 (Operand.tmp 13), none⟩,
            ⟨some 15, Op.call { callee := Callee.value (Operand.func 70), args := #[Operand.tmp 12, Operand.tmp 14], argTypes := #[58, 58] }, none⟩,
            ⟨some 16, Op.unOp UnOp.not 4 (Operand.tmp 15), none⟩])
          (.cond (Operand.tmp 16)
            (.seq
              (.region [] false ([]) [
                ⟨some 4, Op.assign (Operand.const (Value.bool false)), none⟩])
              .ret)
            .skip))
        (.seq
          (.seq
            (.region [21] false ([]) [
              ⟨some 17, Op.fieldAddr 62 (Operand.tmp 2) 2, none⟩,
              ⟨some 18, Op.load 59 (Operand.tmp 17), none⟩,
              ⟨some 19, Op.fieldAddr 62 (Operand.tmp 3) 2, none⟩,
              ⟨some 20, Op.load 59 (Operand.tmp 19), none⟩,
              ⟨some 21, Op.call { callee := Callee.value (Operand.func 71), args := #[Operand.tmp 18, Operand.tmp 20], argTypes := #[59, 59] }, none⟩,
              ⟨some 22, Op.unOp UnOp.not 4 (Operand.tmp 21), none⟩])
            (.cond (Operand.tmp 22)
              (.seq
                (.region [] false ([]) [
                  ⟨some 4, Op.assign (Operand.const (Value.bool false)), none⟩])
                .ret)
              .skip))
          (.seq
            (.seq
              (.region [27] false ([]) [
                ⟨some 23, Op.fieldAddr 62 (Operand.tmp 2) 3, none⟩,
                ⟨some 24, Op.load 60 (Operand.tmp 23), none⟩,
                ⟨some 25, Op.fieldAddr 62 (Operand.tmp 3) 3, none⟩,
                ⟨some 26, Op.load 60 (Operand.tmp 25), none⟩,
                ⟨some 27, Op.call { callee := Callee.value (Operand.func 72), args := #[Operand.tmp 24, Operand.tmp 26], argTypes := #[60, 60] }, none⟩,
                ⟨some 28, Op.unOp UnOp.not 4 (Operand.tmp 27), none⟩])
              (.cond (Operand.tmp 28)
                (.seq
                  (.region [] false ([]) [
                    ⟨some 4, Op.assign (Operand.const (Value.bool false)), none⟩])
                  .ret)
                .skip))
            (.seq
              (.seq
                (.region [] false ([]) [
                  ⟨some 29, Op.fieldAddr 62 (Operand.tmp 2) 4, none⟩,
                  ⟨some 30, Op.load 2 (Operand.tmp 29), none⟩,
                  ⟨some 31, Op.fieldAddr 62 (Operand.tmp 3) 4, none⟩,
                  ⟨some 32, Op.load 2 (Operand.tmp 31), none⟩,
                  ⟨some 33, Op.binOp BinOp.neq 2 (Operand.tmp 30) (Operand.tmp 32) 2, none⟩])
                (.cond (Operand.tmp 33)
                  (.seq
                    (.region [] false ([]) [
                      ⟨some 4, Op.assign (Operand.const (Value.bool false)), none⟩])
                    .ret)
                  .skip))
              (.seq
                (.region [] false ([]) [
                  ⟨some 4, Op.assign (Operand.const (Value.bool true)), none⟩])
                .ret)))))))
set_option maxHeartbeats 1000000 in
theorem eqN (n : Net) (h : LN n) : CallsF Try.prog 40 [.agg (encN n), .agg (encN n)] (.t (.v (.bool true))) [] := by
  obtain ⟨h1, h2, h3, h4, h5, h6, h7⟩ := h
  refine callsF_of_wp1 (fn := Try.f40) (k := k40) (fun _ => []) mixed (by kernel_rfl) rfl (by kernel_rfl) (by kernel_rfl) (by kernel_rfl) rfl (by simp [Try.f40]) (by simp [Arg.like]) ?_
  generalize hst : St.enter [.agg (encN n), .agg (encN n)] = st0
  have t0 : st0.tm 0 = .agg ((encN n) |>.map .t) := by rw [← hst]; rfl
  have t1 : st0.tm 1 = .agg ((encN n) |>.map .t) := by rw [← hst]; rfl
  clear hst
  unfold k40
  simp [encN] at t0 t1
  repeat' (first
    | (refine wp2_seq fun K hK => ?_)
    | (refine wp1_seq fun K hK => ?_)
    | (refine M_cons fun K hK => ?_)
    | (refine hK _ ?_; clear hK K)
    | (clear hK K; refine hK _ ?_; clear hK K)
    | (clear hK K; clear hK K; refine hK _ ?_; clear hK K)
    | (clear hK K; clear hK K; clear hK K; refine hK _ ?_; clear hK K)
    | (refine hX _ ?_; clear hX hY X Y)
    | (refine hY _ ?_; clear hX hY X Y)
    | (refine wp2_block ?_)
    | (refine wp1_block ?_)
    | (refine wp2_region ?_)
    | (refine wp1_region ?_)
    | (refine wp2_cond fun X Y hX hY => ?_)
    | (refine wp1_cond fun X Y hX hY => ?_)
    | (refine condK_of (fun c => ?_) (fun c => ?_) <;> (try simp [-List.length_eq_zero_iff] at c))
    | (refine guard1_or (fun c => ?_) (fun c => ?_) <;> (have cc := c) <;> (try simp [-List.length_eq_zero_iff] at cc) <;> (try simp (disch := omega) [t0, t1, c]))
    | (refine callT_fl (eqI _ _ ?_ ?_) (by simp [St.args, St.arg, t0, t1] <;> first | rfl | ((repeat' first | rfl | apply And.intro); done)) (by first | (simp [RV.flat, RV.flats, T.flat]; done) | ((repeat' first | exact flat_intRow _ | exact flat_boolRow _ | exact trivial | constructor | unfold RV.flat | unfold RV.flats); done)) (by simp [mutsOf]) ?_; omega; omega)
    | (refine callT_fl (eqWs n.ways h2 h5 h6) (by simp [St.args, St.arg, t0, t1] <;> first | rfl | ((repeat' first | rfl | apply And.intro); done)) (by first | (simp [RV.flat, RV.flats, T.flat]; done) | ((repeat' first | exact flat_intRow _ | exact flat_boolRow _ | exact trivial | constructor | unfold RV.flat | unfold RV.flats); done)) (by simp [mutsOf]) ?_)
    | (refine callT_fl (eqRs n.rels h3 h7) (by simp [St.args, St.arg, t0, t1] <;> first | rfl | ((repeat' first | rfl | apply And.intro); done)) (by first | (simp [RV.flat, RV.flats, T.flat]; done) | ((repeat' first | exact flat_intRow _ | exact flat_boolRow _ | exact trivial | constructor | unfold RV.flat | unfold RV.flats); done)) (by simp [mutsOf]) ?_)
    | (refine callT_fl (eqCs n.tcs h4) (by simp [St.args, St.arg, t0, t1] <;> first | rfl | ((repeat' first | rfl | apply And.intro); done)) (by first | (simp [RV.flat, RV.flats, T.flat]; done) | ((repeat' first | exact flat_intRow _ | exact flat_boolRow _ | exact trivial | constructor | unfold RV.flat | unfold RV.flats); done)) (by simp [mutsOf]) ?_)
    | (simp (disch := omega) [t0, t1]))
  all_goals try (simp [t0, t1, Back]; done)
end Cal
