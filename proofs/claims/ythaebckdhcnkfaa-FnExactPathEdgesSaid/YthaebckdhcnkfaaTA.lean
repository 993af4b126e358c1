import Derived.Test.YthaebckdhcnkfaaT9
set_option linter.unusedSimpArgs false
set_option linter.unusedVariables false
namespace Cal
open Go Go.Proofs
set_option maxRecDepth 100000
/-- A path's vertex is right. -/
def POK (g : Gr) (p : List Int) (i : Nat) : Prop := 0 ≤ rd p i ∧ rd p i < g.edgeOf.length ∧ (i = 0 → rd g.start (rd g.edgeOf (rd p 0)) = rd p 0) ∧ (0 < i → 0 ≤ arcW g (rd p ((i : Int) - 1)) (rd p i))
structure IsPath (g : Gr) (p : List Int) : Prop where
  pos : 0 < p.length
  le : p.length ≤ 10000
  ok : ∀ i < p.length, POK g p i
noncomputable instance (g : Gr) (p : List Int) : Decidable (IsPath g p) := Classical.propDecidable _
def GB (g : Gr) (s : St) : Prop := s.tm 2 = .ptr (2, 0) 0 0 ∧ s.ob (2, 0) = objG g
theorem VG.startI {g : Gr} (h : VG g) {v : Int} (h0 : 0 ≤ v) (h1 : v < g.start.length) : 0 ≤ rd g.start v ∧ rd g.start v < g.edgeOf.length := by
  have := h.s v.toNat (by omega)
  unfold SOK at this
  rw [Int.toNat_of_nonneg h0] at this
  omega
/-- The code of spec.l4IsPath. -/
def k51 : Code1 :=
  (.seq
    (.region [2] false ([]) [
      ⟨some 2, Op.box 27 (Operand.tmp 0), none⟩,
      ⟨some 4, Op.assign (Operand.const (Value.bool false)), none⟩])
    (.seq
      (.seq
        (.region [] false ([]) [
          ⟨some 6, Op.move (Operand.tmp 1), none⟩,
          ⟨some 7, Op.call { callee := Callee.builtin Builtin.len, args := #[Operand.tmp 6], argTypes := #[22] }, none⟩,
          ⟨some 8, Op.binOp BinOp.eql 3 (Operand.tmp 7) (Operand.const (Value.int IntKind.i64 0)) 3, none⟩,
          ⟨some 9, Op.move (Operand.tmp 8), none⟩,
          ⟨some 10, Op.move (Operand.tmp 1), some (9, false)⟩,
          ⟨some 11, Op.call { callee := Callee.builtin Builtin.len, args := #[Operand.tmp 10], argTypes := #[22] }, some (9, false)⟩,
          ⟨some 12, Op.binOp BinOp.gtr 3 (Operand.tmp 11) (Operand.const (Value.int IntKind.i64 10000)) 3, some (9, false)⟩,
          ⟨some 13, Op.pick (Operand.tmp 9) (Operand.const (Value.bool true)) (Operand.tmp 12), none⟩])
        (.cond (Operand.tmp 13)
          (.seq
            (.region [] false ([]) [
              ⟨some 4, Op.assign (Operand.const (Value.bool false)), none⟩])
            .ret)
          .skip))
      (.seq
        (.seq
          (.region [] false ([]) [
            ⟨some 5, Op.assign (Operand.const (Value.int IntKind.i64 0)), none⟩])
          (.block 0
            (.loop
              (.seq
                (.seq
                  (.region [] false ([]) [
                    ⟨some 14, Op.move (Operand.tmp 5), none⟩,
                    ⟨some 15, Op.move (Operand.tmp 1), none⟩,
                    ⟨some 16, Op.call { callee := Callee.builtin Builtin.len, args := #[Operand.tmp 15], argTypes := #[22] }, none⟩,
                    ⟨some 17, Op.binOp BinOp.lss 3 (Operand.tmp 14) (Operand.tmp 16) 3, none⟩])
                  (.cond (Operand.tmp 17)
                    .skip
                    (.exit 0)))
                (.seq
                  (.block 1
                    (.seq
                      (.seq
                        (.region [] true ([]) [
                          ⟨some 20, Op.move (Operand.tmp 1), none⟩,
                          ⟨some 21, Op.move (Operand.tmp 5), none⟩,
                          ⟨some 22, Op.indexAddr 22 (Operand.tmp 20) (Operand.tmp 21), none⟩,
                          ⟨some 23, Op.load 2 (Operand.tmp 22), none⟩,
                          ⟨some 24, Op.binOp BinOp.lss 2 (Operand.tmp 23) (Operand.const (Value.int IntKind.i64 0)) 2, none⟩,
                          ⟨some 25, Op.move (Operand.tmp 24), none⟩,
                          ⟨some 26, Op.move (Operand.tmp 1), some (25, false)⟩,
                          ⟨some 27, Op.move (Operand.tmp 5), some (25, false)⟩,
                          ⟨some 28, Op.indexAddr 22 (Operand.tmp 26) (Operand.tmp 27), some (25, false)⟩,
                          ⟨some 29, Op.load 2 (Operand.tmp 28), some (25, false)⟩,
                          ⟨some 30, Op.fieldAddr 27 (Operand.tmp 2) 0, some (25, false)⟩,
                          ⟨some 31, Op.load 22 (Operand.tmp 30), some (25, false)⟩,
                          ⟨some 32, Op.call { callee := Callee.builtin Builtin.len, args := #[Operand.tmp 31], argTypes := #[22] }, some (25, false)⟩,
                          ⟨some 33, Op.binOp BinOp.geq 2 (Operand.tmp 29) (Operand.tmp 32) 2, some (25, false)⟩,
                          ⟨some 34, Op.pick (Operand.tmp 25) (Operand.const (Value.bool true)) (Operand.tmp 33), none⟩])
                        (.cond (Operand.tmp 34)
                          (.seq
                            (.region [] false ([]) [
                              ⟨some 4, Op.assign (Operand.const (Value.bool false)), none⟩])
                            .ret)
                          .skip))
                      (.seq
                        (.seq
                          (.region [] true ([]) [
                            ⟨some 35, Op.move (Operand.tmp 5), none⟩,
                            ⟨some 36, Op.binOp BinOp.eql 3 (Operand.tmp 35) (Operand.const (Value.int IntKind.i64 0)) 3, none⟩,
                            ⟨some 37, Op.move (Operand.tmp 36), none⟩,
                            ⟨some 38, Op.fieldAddr 27 (Operand.tmp 2) 5, some (37, true)⟩,
                            ⟨some 39, Op.load 22 (Operand.tmp 38), some (37, true)⟩,
                            ⟨some 40, Op.fieldAddr 27 (Operand.tmp 2) 0, some (37, true)⟩,
                            ⟨some 41, Op.load 22 (Operand.tmp 40), some (37, true)⟩,
                            ⟨some 42, Op.move (Operand.tmp 1), some (37, true)⟩,
                            ⟨some 43, Op.indexAddr 22 (Operand.tmp 42) (Operand.const (Value.int IntKind.i64 0)), some (37, true)⟩,
                            ⟨some 44, Op.load 2 (Operand.tmp 43), some (37, true)⟩,
                            ⟨some 45, Op.indexAddr 22 (Operand.tmp 41) (Operand.tmp 44), some (37, true)⟩,
                            ⟨some 46, Op.load 2 (Operand.tmp 45), some (37, true)⟩,
                            ⟨some 47, Op.indexAddr 22 (Operand.tmp 39) (Operand.tmp 46), some (37, true)⟩,
                            ⟨some 48, Op.load 2 (Operand.tmp 47), some (37, true)⟩,
                            ⟨some 49, Op.move (Operand.tmp 1), some (37, true)⟩,
                            ⟨some 50, Op.indexAddr 22 (Operand.tmp 49) (Operand.const (Value.int IntKind.i64 0)), some (37, true)⟩,
                            ⟨some 51, Op.load 2 (Operand.tmp 50), some (37, true)⟩,
                            ⟨some 52, Op.binOp BinOp.neq 2 (Operand.tmp 48) (Operand.tmp 51) 2, some (37, true)⟩,
                            ⟨some 53, Op.pick (Operand.tmp 37) (Operand.tmp 52) (Operand.const (Value.bool false)), none⟩])
                          (.cond (Operand.tmp 53)
                            (.seq
                              (.region [] false ([]) [
                                ⟨some 4, Op.assign (Operand.const (Value.bool false)), none⟩])
                              .ret)
                            .skip))
                        (.seq
                          (.region [67] true ([]) [
                            ⟨some 54, Op.move (Operand.tmp 5), none⟩,
                            ⟨some 55, Op.binOp BinOp.gtr 3 (Operand.tmp 54) (Operand.const (Value.int IntKind.i64 0)) 3, none⟩,
                            ⟨some 56, Op.move (Operand.tmp 55), none⟩,
                            ⟨some 57, Op.load 27 (Operand.tmp 2), some (56, true)⟩,
                            ⟨some 58, Op.move (Operand.tmp 1), some (56, true)⟩,
                            ⟨some 59, Op.move (Operand.tmp 5), some (56, true)⟩,
                            ⟨some 60, Op.binOp BinOp.sub 3 (Operand.tmp 59) (Operand.const (Value.int IntKind.i64 1)) 3, some (56, true)⟩,
                            ⟨some 61, Op.indexAddr 22 (Operand.tmp 58) (Operand.tmp 60), some (56, true)⟩,
                            ⟨some 62, Op.load 2 (Operand.tmp 61), some (56, true)⟩,
                            ⟨some 63, Op.move (Operand.tmp 1), some (56, true)⟩,
                            ⟨some 64, Op.move (Operand.tmp 5), some (56, true)⟩,
                            ⟨some 65, Op.indexAddr 22 (Operand.tmp 63) (Operand.tmp 64), some (56, true)⟩,
                            ⟨some 66, Op.load 2 (Operand.tmp 65), some (56, true)⟩,
                            ⟨some 67, Op.call { callee := Callee.value (Operand.func 52), args := #[Operand.tmp 57, Operand.tmp 62, Operand.tmp 66], argTypes := #[27, 2, 2] }, some (56, true)⟩,
                            ⟨some 68, Op.binOp BinOp.lss 2 (Operand.tmp 67) (Operand.const (Value.int IntKind.i64 0)) 2, some (56, true)⟩,
                            ⟨some 69, Op.pick (Operand.tmp 56) (Operand.tmp 68) (Operand.const (Value.bool false)), none⟩])
                          (.cond (Operand.tmp 69)
                            (.seq
                              (.region [] false ([]) [
                                ⟨some 4, Op.assign (Operand.const (Value.bool false)), none⟩])
                              .ret)
                            .skip)))))
                  (.region [] false ([]) [
                    ⟨some 18, Op.move (Operand.tmp 5), none⟩,
                    ⟨some 19, Op.binOp BinOp.add 3 (Operand.tmp 18) (Operand.const (Value.int IntKind.i64 1)) 3, none⟩,
                    ⟨some 5, Op.assign (Operand.tmp 19), none⟩]))))))
        (.seq
          (.region [] false ([]) [
            ⟨some 4, Op.assign (Operand.const (Value.bool true)), none⟩])
          .ret))))
set_option maxHeartbeats 0 in
theorem isPath_c (g : Gr) (p : List Int) (hg : VG g) (hp : p.length ≤ 1048576) : CallsF Try.prog 51 [.agg (encG g), .val (ints p)] (.t (.v (.bool (decide (IsPath g p))))) [] := by
  have l1 := hg.l1
  have l3 := hg.l3
  have l5 := hg.l5
  have l7 := hg.l7
  refine callsF_of_wp1 (fn := Try.f51) (k := k51) (fun _ => []) mixed (by kernel_rfl) rfl (by kernel_rfl) (by kernel_rfl) (by kernel_rfl) rfl (by simp [Try.f51]) (by simp [Arg.like]) ?_
  generalize hst : St.enter [.agg (encG g), .val (ints p)] = st0
  have t0 : st0.tm 0 = .agg ((encG g) |>.map .t) := by rw [← hst]; rfl
  have t1 : st0.tm 1 = .t (ints p) := by rw [← hst]; rfl
  clear hst
  unfold k51
  simp [encG] at t0
  repeat' (first
    | (refine wp2_seq fun K hK => ?_)
    | (refine wp1_seq fun K hK => ?_)
    | (refine M_cons fun K hK => ?_)
    | (refine hK _ ?_; clear hK K)
    | (refine hX _ ?_; clear hX hY X Y)
    | (refine hY _ ?_; clear hX hY X Y)
    | (refine wp2_block ?_)
    | (refine wp1_block ?_)
    | (refine wp2_region ?_)
    | (refine wp1_region ?_)
    | (refine wp2_cond fun X Y hX hY => ?_)
    | (refine wp1_cond fun X Y hX hY => ?_)
    | (refine condK_of (fun c => ?_) (fun c => ?_) <;> (try simp [-List.length_eq_zero_iff] at c))
    | (refine guard1_or (fun c => ?_) (fun c => ?_) <;> (have cc := c) <;> (try simp [-List.length_eq_zero_iff] at cc) <;> (try simp (disch := omega) [t0, t1, c]))
    | (simp (disch := omega) [t0, t1]))
  all_goals try (simp [t0, t1, Back]; done)
  all_goals try (simp [Back]; intro h; have e1 := h.pos; have e2 := h.le; omega)
  have p1 : 0 < p.length := by omega
  have p2 : p.length ≤ 10000 := by omega
  have hJ : ∀ s, (∀ i : Nat, i < p.length → POK g p i) → K s := by
    intro s hs
    have : IsPath g p := ⟨p1, p2, hs⟩
    repeat' (first
      | (refine wp2_seq fun K hK => ?_)
      | (refine wp1_seq fun K hK => ?_)
      | (refine M_cons fun K hK => ?_)
      | (refine hK _ ?_; clear hK K)
      | (refine hX _ ?_; clear hX hY X Y)
      | (refine hY _ ?_; clear hX hY X Y)
      | (refine wp2_block ?_)
      | (refine wp1_block ?_)
      | (refine wp2_region ?_)
      | (refine wp1_region ?_)
      | (refine wp2_cond fun X Y hX hY => ?_)
      | (refine wp1_cond fun X Y hX hY => ?_)
      | (refine condK_of (fun c => ?_) (fun c => ?_) <;> (try simp [-List.length_eq_zero_iff] at c))
      | (refine guard1_or (fun c => ?_) (fun c => ?_) <;> (have cc := c) <;> (try simp [-List.length_eq_zero_iff] at cc) <;> (try simp (disch := omega) [this, c]))
      | (simp (disch := omega) [this]))
    all_goals try (simp [this, Back]; done)
  clear hK
  refine wp1_loop (fun n s => ∃ k : Nat, GB g s ∧ s.tm 1 = .t (ints p) ∧ s.tm 5 = .t (.v (.int .i64 k)) ∧ k ≤ p.length ∧ n = p.length - k ∧ ∀ i < k, POK g p i) p.length ?_ ?_
  · exact ⟨0, by simp [GB, t1]⟩
  · rintro n s ⟨k, ⟨s2, o⟩, s1, s5, hk, rfl, hq⟩ K' hK'
    have e0 : k = 0 → rd p 0 = rd p k := fun h => by subst h; rfl
    have e1 : 0 ≤ rd p 0 → rd p 0 < g.edgeOf.length → 0 ≤ rd g.edgeOf (rd p 0) ∧ rd g.edgeOf (rd p 0) < g.start.length := fun a b => hg.edgeI a b
    have e2 : 0 < k → 0 ≤ rd p ((k : Int) - 1) ∧ rd p ((k : Int) - 1) < g.edgeOf.length := fun h => by
      have := hq (k - 1) (by omega)
      unfold POK at this
      rw [show ((k - 1 : Nat) : Int) = (k : Int) - 1 by omega] at this
      exact ⟨this.1, this.2.1⟩
    repeat' (first
      | (refine wp2_seq fun K hK => ?_)
      | (refine wp1_seq fun K hK => ?_)
      | (refine M_cons fun K hK => ?_)
      | (refine hK _ ?_; clear hK K)
      | (refine hX _ ?_; clear hX hY X Y)
      | (refine hY _ ?_; clear hX hY X Y)
      | (refine wp2_block ?_)
      | (refine wp1_block ?_)
      | (refine wp2_region ?_)
      | (refine wp1_region ?_)
      | (refine wp2_cond fun X Y hX hY => ?_)
      | (refine wp1_cond fun X Y hX hY => ?_)
      | (refine condK_of (fun c => ?_) (fun c => ?_) <;> (try simp [-List.length_eq_zero_iff] at c))
      | (refine guard1_or (fun c => ?_) (fun c => ?_) <;> (have cc := c) <;> (try simp [-List.length_eq_zero_iff] at cc) <;> (try simp (disch := omega) [s2, o, s1, s5, c]))
      | (refine callT_fl (arcW_c g _ _ hg ?_ ?_) (by simp [St.args, St.arg, s2, o, s1, s5] <;> first | rfl | exact ⟨rfl, rfl⟩ | exact ⟨rfl, rfl, rfl⟩) (by first | (simp [RV.flat, RV.flats, T.flat]; done) | (unfold RV.flat; exact flat_intRow _) | (repeat' first | exact flat_intRow _ | exact trivial | constructor | unfold RV.flat | unfold RV.flats)) (by simp [mutsOf]) ?_; omega; omega)
      | (simp (disch := omega) [s2, o, s1, s5]))
    all_goals try (simp [s2, o, s1, s5, Back]; done)
    all_goals first
      | omega
      | (simp [Back]; intro h; have hv := h.ok k (by omega); unfold POK at hv; omega)
      | (refine hK' (p.length - (k + 1)) _ (by omega) ⟨k + 1, ?_⟩; simp [GB, s2, o, s1]; exact ⟨by omega, below_succ hq (by unfold POK; omega)⟩)
      | (refine hJ _ fun i hi => hq i (by omega))
/-- The cost of a path's first edges. -/
def costTo (g : Gr) (p : List Int) : Nat → Int
  | 0 => rd g.weight (rd g.edgeOf (rd p 0))
  | k + 1 => costTo g p k + rd g.cost (arcW g (rd p k) (rd p ((k : Int) + 1)))
theorem arcW_lt {g : Gr} (hg : VG g) {v w : Int} (h0 : 0 ≤ v) (h1 : v < g.edgeOf.length) : -1 ≤ arcW g v w ∧ arcW g v w < g.to.length := by
  have b1 := hg.firstI (v := v) h0 (by omega)
  have b2 := hg.firstI (v := v + 1) (by omega) (by omega)
  have b3 := hg.f v.toNat (by omega)
  rw [Int.toNat_of_nonneg h0] at b3
  have := scan_le (p := fun k => rd g.to k == w) (n := (rd g.first (v + 1) - rd g.first v).toNat) b1.1
  unfold arcW
  refine ⟨this.1, ?_⟩
  by_cases h : rd g.first v < rd g.first (v + 1)
  · omega
  · rw [scan_end (by omega)]; omega
theorem IsPath.inI {g : Gr} {p : List Int} (h : IsPath g p) {i : Int} (h0 : 0 ≤ i) (h1 : i < p.length) : 0 ≤ rd p i ∧ rd p i < g.edgeOf.length := by
  have := h.ok i.toNat (by omega)
  unfold POK at this
  rw [Int.toNat_of_nonneg h0] at this
  exact ⟨this.1, this.2.1⟩
theorem IsPath.arcI {g : Gr} {p : List Int} (h : IsPath g p) {i : Int} (h0 : 0 < i) (h1 : i < p.length) : 0 ≤ arcW g (rd p (i - 1)) (rd p i) := by
  have := h.ok i.toNat (by omega)
  unfold POK at this
  rw [Int.toNat_of_nonneg (by omega)] at this
  exact this.2.2.2 (by omega)
theorem cost_le {g : Gr} {p : List Int} (hg : VG g) (hp : IsPath g p) : ∀ k : Nat, k < p.length → 0 ≤ costTo g p k ∧ costTo g p k ≤ 1048576 + k * 3145728
  | 0, h => by
    have h1 := hp.inI (i := 0) (by omega) (by omega)
    have h2 := hg.edgeI h1.1 h1.2
    have h3 := hg.weightI h2.1 (by have := hg.l2; omega)
    unfold costTo
    omega
  | k + 1, h => by
    have ih := cost_le hg hp k (by omega)
    have h1 := hp.inI (i := k) (by omega) (by omega)
    have h2 := hp.arcI (i := (k : Int) + 1) (by omega) (by omega)
    rw [show (k : Int) + 1 - 1 = k by omega] at h2
    have h3 := arcW_lt (w := rd p ((k : Int) + 1)) hg h1.1 h1.2
    have h4 := hg.toI h2 h3.2
    unfold costTo
    push_cast
    omega
/-- What a path costs. -/
noncomputable def pathCost (g : Gr) (p : List Int) : Int := if VG g ∧ IsPath g p then costTo g p (p.length - 1) else -1
/-- The code of spec.PathCost. -/
def k21 : Code1 :=
  (.seq
    (.region [2] false ([]) [
      ⟨some 2, Op.box 27 (Operand.tmp 0), none⟩,
      ⟨some 4, Op.assign (Operand.const (Value.int IntKind.i64 0)), none⟩])
    (.seq
      (.seq
        (.region [8, 13] false ([]) [
          ⟨some 7, Op.load 27 (Operand.tmp 2), none⟩,
          ⟨some 8, Op.call { callee := Callee.value (Operand.func 12), args := #[Operand.tmp 7], argTypes := #[27] }, none⟩,
          ⟨some 9, Op.unOp UnOp.not 4 (Operand.tmp 8), none⟩,
          ⟨some 10, Op.move (Operand.tmp 9), none⟩,
          ⟨some 11, Op.load 27 (Operand.tmp 2), some (10, false)⟩,
          ⟨some 12, Op.move (Operand.tmp 1), some (10, false)⟩,
          ⟨some 13, Op.call { callee := Callee.value (Operand.func 51), args := #[Operand.tmp 11, Operand.tmp 12], argTypes := #[27, 22] }, some (10, false)⟩,
          ⟨some 14, Op.unOp UnOp.not 4 (Operand.tmp 13), some (10, false)⟩,
          ⟨some 15, Op.pick (Operand.tmp 10) (Operand.const (Value.bool true)) (Operand.tmp 14), none⟩])
        (.cond (Operand.tmp 15)
          (.seq
            (.region [] false ([]) [
              ⟨some 4, Op.assign (Operand.const (Value.int IntKind.i64 (-1))), none⟩])
            .ret)
          .skip))
      (.seq
        (.region [] true ([]) [
          ⟨some 16, Op.fieldAddr 27 (Operand.tmp 2) 6, none⟩,
          ⟨some 17, Op.load 22 (Operand.tmp 16), none⟩,
          ⟨some 18, Op.fieldAddr 27 (Operand.tmp 2) 0, none⟩,
          ⟨some 19, Op.load 22 (Operand.tmp 18), none⟩,
          ⟨some 20, Op.move (Operand.tmp 1), none⟩,
          ⟨some 21, Op.indexAddr 22 (Operand.tmp 20) (Operand.const (Value.int IntKind.i64 0)), none⟩,
          ⟨some 22, Op.load 2 (Operand.tmp 21), none⟩,
          ⟨some 23, Op.indexAddr 22 (Operand.tmp 19) (Operand.tmp 22), none⟩,
          ⟨some 24, Op.load 2 (Operand.tmp 23), none⟩,
          ⟨some 25, Op.indexAddr 22 (Operand.tmp 17) (Operand.tmp 24), none⟩,
          ⟨some 26, Op.load 2 (Operand.tmp 25), none⟩,
          ⟨some 5, Op.assign (Operand.tmp 26), none⟩])
        (.seq
          (.seq
            (.region [] false ([]) [
              ⟨some 6, Op.assign (Operand.const (Value.int IntKind.i64 1)), none⟩])
            (.block 0
              (.loop
                (.seq
                  (.seq
                    (.region [] false ([]) [
                      ⟨some 27, Op.move (Operand.tmp 6), none⟩,
                      ⟨some 28, Op.move (Operand.tmp 1), none⟩,
                      ⟨some 29, Op.call { callee := Callee.builtin Builtin.len, args := #[Operand.tmp 28], argTypes := #[22] }, none⟩,
                      ⟨some 30, Op.binOp BinOp.lss 3 (Operand.tmp 27) (Operand.tmp 29) 3, none⟩])
                    (.cond (Operand.tmp 30)
                      .skip
                      (.exit 0)))
                  (.seq
                    (.block 1
                      (.region [46] true ([]) [
                        ⟨some 33, Op.move (Operand.tmp 5), none⟩,
                        ⟨some 34, Op.fieldAddr 27 (Operand.tmp 2) 4, none⟩,
                        ⟨some 35, Op.load 22 (Operand.tmp 34), none⟩,
                        ⟨some 36, Op.load 27 (Operand.tmp 2), none⟩,
                        ⟨some 37, Op.move (Operand.tmp 1), none⟩,
                        ⟨some 38, Op.move (Operand.tmp 6), none⟩,
                        ⟨some 39, Op.binOp BinOp.sub 3 (Operand.tmp 38) (Operand.const (Value.int IntKind.i64 1)) 3, none⟩,
                        ⟨some 40, Op.indexAddr 22 (Operand.tmp 37) (Operand.tmp 39), none⟩,
                        ⟨some 41, Op.load 2 (Operand.tmp 40), none⟩,
                        ⟨some 42, Op.move (Operand.tmp 1), none⟩,
                        ⟨some 43, Op.move (Operand.tmp 6), none⟩,
                        ⟨some 44, Op.indexAddr 22 (Operand.tmp 42) (Operand.tmp 43), none⟩,
                        ⟨some 45, Op.load 2 (Operand.tmp 44), none⟩,
                        ⟨some 46, Op.call { callee := Callee.value (Operand.func 52), args := #[Operand.tmp 36, Operand.tmp 41, Operand.tmp 45], argTypes := #[27, 2, 2] }, none⟩,
                        ⟨some 47, Op.indexAddr 22 (Operand.tmp 35) (Operand.tmp 46), none⟩,
                        ⟨some 48, Op.load 2 (Operand.tmp 47), none⟩,
                        ⟨some 49, Op.binOp BinOp.add 2 (Operand.tmp 33) (Operand.tmp 48) 2, none⟩,
                        ⟨some 5, Op.assign (Operand.tmp 49), none⟩]))
                    (.region [] false ([]) [
                      ⟨some 31, Op.move (Operand.tmp 6), none⟩,
                      ⟨some 32, Op.binOp BinOp.add 3 (Operand.tmp 31) (Operand.const (Value.int IntKind.i64 1)) 3, none⟩,
                      ⟨some 6, Op.assign (Operand.tmp 32), none⟩]))))))
          (.seq
            (.region [] false ([]) [
              ⟨some 50, Op.move (Operand.tmp 5), none⟩,
              ⟨some 4, Op.assign (Operand.tmp 50), none⟩])
            .ret)))))
set_option maxHeartbeats 0 in
theorem pathCostS (g : Gr) (p : List Int) (h : sumG g ≤ 1048576) (hp : p.length ≤ 1048576) : CallsF Try.prog 21 [.agg (encG g), .val (ints p)] (.t (.v (.int .i64 (pathCost g p)))) [] := by
  unfold sumG at h
  refine callsF_of_wp1 (fn := Try.f21) (k := k21) (fun _ => []) mixed (by kernel_rfl) rfl (by kernel_rfl) (by kernel_rfl) (by kernel_rfl) rfl (by simp [Try.f21]) (by simp [Arg.like]) ?_
  generalize hst : St.enter [.agg (encG g), .val (ints p)] = st0
  have t0 : st0.tm 0 = .agg ((encG g) |>.map .t) := by rw [← hst]; rfl
  have t1 : st0.tm 1 = .t (ints p) := by rw [← hst]; rfl
  clear hst
  unfold k21
  simp [encG] at t0
  by_cases hg : VG g
  · by_cases hq : IsPath g p
    · have l1 := hg.l1
      have l2 := hg.l2
      have l3 := hg.l3
      have l5 := hg.l5
      have l6 := hg.l6
      have l7 := hg.l7
      have q1 := hq.pos
      have q2 := hq.le
      have r1 := hq.inI (i := 0) (by omega) (by omega)
      have r2 := hg.edgeI r1.1 r1.2
      have hc : pathCost g p = costTo g p (p.length - 1) := by unfold pathCost; rw [if_pos ⟨hg, hq⟩]
      repeat' (first
        | (refine wp2_seq fun K hK => ?_)
        | (refine wp1_seq fun K hK => ?_)
        | (refine M_cons fun K hK => ?_)
        | (refine hK _ ?_; clear hK K)
        | (refine hX _ ?_; clear hX hY X Y)
        | (refine hY _ ?_; clear hX hY X Y)
        | (refine wp2_block ?_)
        | (refine wp1_block ?_)
        | (refine wp2_region ?_)
        | (refine wp1_region ?_)
        | (refine wp2_cond fun X Y hX hY => ?_)
        | (refine wp1_cond fun X Y hX hY => ?_)
        | (refine condK_of (fun c => ?_) (fun c => ?_) <;> (try simp [-List.length_eq_zero_iff] at c))
        | (refine guard1_or (fun c => ?_) (fun c => ?_) <;> (have cc := c) <;> (try simp [-List.length_eq_zero_iff] at cc) <;> (try simp (disch := omega) [t0, t1, hg, hq, encG, c]))
        | (refine callT_fl (vgS g ?_ ?_ ?_ ?_ ?_ ?_ ?_) (by simp [St.args, St.arg, t0, t1, hg, hq, encG] <;> first | rfl | exact ⟨rfl, rfl⟩ | exact ⟨rfl, rfl, rfl⟩) (by first | (simp [RV.flat, RV.flats, T.flat]; done) | (unfold RV.flat; exact flat_intRow _) | (repeat' first | exact flat_intRow _ | exact trivial | constructor | unfold RV.flat | unfold RV.flats)) (by simp [mutsOf]) ?_; omega; omega; omega; omega; omega; omega; omega)
        | (refine callT_fl (isPath_c g p hg hp) (by simp [St.args, St.arg, t0, t1, hg, hq, encG] <;> first | rfl | exact ⟨rfl, rfl⟩ | exact ⟨rfl, rfl, rfl⟩) (by first | (simp [RV.flat, RV.flats, T.flat]; done) | (unfold RV.flat; exact flat_intRow _) | (repeat' first | exact flat_intRow _ | exact trivial | constructor | unfold RV.flat | unfold RV.flats)) (by simp [mutsOf]) ?_)
        | (simp (disch := omega) [t0, t1, hg, hq, encG]))
      all_goals try (simp [t0, t1, hg, hq, encG, Back]; done)
      have hJ : ∀ s, s.tm 5 = .t (.v (.int .i64 (costTo g p (p.length - 1)))) → K s := by
        intro s s5
        repeat' (first
          | (refine wp2_seq fun K hK => ?_)
          | (refine wp1_seq fun K hK => ?_)
          | (refine M_cons fun K hK => ?_)
          | (refine hK _ ?_; clear hK K)
          | (refine hX _ ?_; clear hX hY X Y)
          | (refine hY _ ?_; clear hX hY X Y)
          | (refine wp2_block ?_)
          | (refine wp1_block ?_)
          | (refine wp2_region ?_)
          | (refine wp1_region ?_)
          | (refine wp2_cond fun X Y hX hY => ?_)
          | (refine wp1_cond fun X Y hX hY => ?_)
          | (refine condK_of (fun c => ?_) (fun c => ?_) <;> (try simp [-List.length_eq_zero_iff] at c))
          | (refine guard1_or (fun c => ?_) (fun c => ?_) <;> (have cc := c) <;> (try simp [-List.length_eq_zero_iff] at cc) <;> (try simp (disch := omega) [s5, hc, c]))
          | (simp (disch := omega) [s5, hc]))
        all_goals try (simp [s5, hc, Back]; done)
      clear hK
      refine wp1_loop (fun n s => ∃ k : Nat, GB g s ∧ s.tm 1 = .t (ints p) ∧ s.tm 6 = .t (.v (.int .i64 ((k : Int) + 1))) ∧ s.tm 5 = .t (.v (.int .i64 (costTo g p k))) ∧ k < p.length ∧ n = p.length - k) p.length ?_ ?_
      · exact ⟨0, by simp [GB, t1, costTo]; omega⟩
      · rintro n s ⟨k, ⟨s2, o⟩, s1, s6, s5, hk, rfl⟩ K' hK'
        have c1 := cost_le hg hq k hk
        have c2 : (k : Int) + 1 < p.length → 0 ≤ arcW g (rd p k) (rd p ((k : Int) + 1)) ∧ arcW g (rd p k) (rd p ((k : Int) + 1)) < g.to.length ∧ 0 ≤ rd g.cost (arcW g (rd p k) (rd p ((k : Int) + 1))) ∧ rd g.cost (arcW g (rd p k) (rd p ((k : Int) + 1))) ≤ 3145728 := fun hh => by
          have h1 := hq.inI (i := k) (by omega) (by omega)
          have h2 := hq.arcI (i := (k : Int) + 1) (by omega) (by omega)
          rw [show (k : Int) + 1 - 1 = k by omega] at h2
          have h3 := arcW_lt (w := rd p ((k : Int) + 1)) hg h1.1 h1.2
          have h4 := hg.toI h2 h3.2
          exact ⟨h2, h3.2, h4.2.2.1, h4.2.2.2⟩
        have c3 := hq.inI (i := (k : Int)) (by omega) (by omega)
        have c4 : (k : Int) + 1 - 1 = k := by omega
        repeat' (first
          | (refine wp2_seq fun K hK => ?_)
          | (refine wp1_seq fun K hK => ?_)
          | (refine M_cons fun K hK => ?_)
          | (refine hK _ ?_; clear hK K)
          | (refine hX _ ?_; clear hX hY X Y)
          | (refine hY _ ?_; clear hX hY X Y)
          | (refine wp2_block ?_)
          | (refine wp1_block ?_)
          | (refine wp2_region ?_)
          | (refine wp1_region ?_)
          | (refine wp2_cond fun X Y hX hY => ?_)
          | (refine wp1_cond fun X Y hX hY => ?_)
          | (refine condK_of (fun c => ?_) (fun c => ?_) <;> (try simp [-List.length_eq_zero_iff] at c))
          | (refine guard1_or (fun c => ?_) (fun c => ?_) <;> (have cc := c) <;> (try simp [-List.length_eq_zero_iff] at cc) <;> (try simp (disch := omega) [s2, o, s1, s6, s5, encG, c]))
          | (refine callT_fl (arcW_c g _ _ hg ?_ ?_) (by simp [St.args, St.arg, s2, o, s1, s6, s5, encG] <;> first | rfl | exact ⟨rfl, rfl⟩ | exact ⟨rfl, rfl, rfl⟩) (by first | (simp [RV.flat, RV.flats, T.flat]; done) | (unfold RV.flat; exact flat_intRow _) | (repeat' first | exact flat_intRow _ | exact trivial | constructor | unfold RV.flat | unfold RV.flats)) (by simp [mutsOf]) ?_; omega; omega)
          | (simp (disch := omega) [s2, o, s1, s6, s5, encG]))
        all_goals try (simp [s2, o, s1, s6, s5, encG, Back]; done)
        · refine hK' (p.length - (k + 1)) _ (by omega) ⟨k + 1, ?_⟩
          simp [GB, s2, o, s1, costTo]
          omega
        · refine hJ _ ?_
          have : p.length - 1 = k := by omega
          simp [s5, this]
    · have hc : pathCost g p = -1 := by unfold pathCost; rw [if_neg (fun h => hq h.2)]
      repeat' (first
        | (refine wp2_seq fun K hK => ?_)
        | (refine wp1_seq fun K hK => ?_)
        | (refine M_cons fun K hK => ?_)
        | (refine hK _ ?_; clear hK K)
        | (refine hX _ ?_; clear hX hY X Y)
        | (refine hY _ ?_; clear hX hY X Y)
        | (refine wp2_block ?_)
        | (refine wp1_block ?_)
        | (refine wp2_region ?_)
        | (refine wp1_region ?_)
        | (refine wp2_cond fun X Y hX hY => ?_)
        | (refine wp1_cond fun X Y hX hY => ?_)
        | (refine condK_of (fun c => ?_) (fun c => ?_) <;> (try simp [-List.length_eq_zero_iff] at c))
        | (refine guard1_or (fun c => ?_) (fun c => ?_) <;> (have cc := c) <;> (try simp [-List.length_eq_zero_iff] at cc) <;> (try simp (disch := omega) [t0, t1, hg, hq, encG, hc, c]))
        | (refine callT_fl (vgS g ?_ ?_ ?_ ?_ ?_ ?_ ?_) (by simp [St.args, St.arg, t0, t1, hg, hq, encG, hc] <;> first | rfl | exact ⟨rfl, rfl⟩ | exact ⟨rfl, rfl, rfl⟩) (by first | (simp [RV.flat, RV.flats, T.flat]; done) | (unfold RV.flat; exact flat_intRow _) | (repeat' first | exact flat_intRow _ | exact trivial | constructor | unfold RV.flat | unfold RV.flats)) (by simp [mutsOf]) ?_; omega; omega; omega; omega; omega; omega; omega)
        | (refine callT_fl (isPath_c g p hg hp) (by simp [St.args, St.arg, t0, t1, hg, hq, encG, hc] <;> first | rfl | exact ⟨rfl, rfl⟩ | exact ⟨rfl, rfl, rfl⟩) (by first | (simp [RV.flat, RV.flats, T.flat]; done) | (unfold RV.flat; exact flat_intRow _) | (repeat' first | exact flat_intRow _ | exact trivial | constructor | unfold RV.flat | unfold RV.flats)) (by simp [mutsOf]) ?_)
        | (simp (disch := omega) [t0, t1, hg, hq, encG, hc]))
      all_goals try (simp [t0, t1, hg, hq, encG, hc, Back]; done)
  · have hc : pathCost g p = -1 := by unfold pathCost; rw [if_neg (fun h => hg h.1)]
    repeat' (first
      | (refine wp2_seq fun K hK => ?_)
      | (refine wp1_seq fun K hK => ?_)
      | (refine M_cons fun K hK => ?_)
      | (refine hK _ ?_; clear hK K)
      | (refine hX _ ?_; clear hX hY X Y)
      | (refine hY _ ?_; clear hX hY X Y)
      | (refine wp2_block ?_)
      | (refine wp1_block ?_)
      | (refine wp2_region ?_)
      | (refine wp1_region ?_)
      | (refine wp2_cond fun X Y hX hY => ?_)
      | (refine wp1_cond fun X Y hX hY => ?_)
      | (refine condK_of (fun c => ?_) (fun c => ?_) <;> (try simp [-List.length_eq_zero_iff] at c))
      | (refine guard1_or (fun c => ?_) (fun c => ?_) <;> (have cc := c) <;> (try simp [-List.length_eq_zero_iff] at cc) <;> (try simp (disch := omega) [t0, t1, hg, encG, hc, c]))
      | (refine callT_fl (vgS g ?_ ?_ ?_ ?_ ?_ ?_ ?_) (by simp [St.args, St.arg, t0, t1, hg, encG, hc] <;> first | rfl | exact ⟨rfl, rfl⟩ | exact ⟨rfl, rfl, rfl⟩) (by first | (simp [RV.flat, RV.flats, T.flat]; done) | (unfold RV.flat; exact flat_intRow _) | (repeat' first | exact flat_intRow _ | exact trivial | constructor | unfold RV.flat | unfold RV.flats)) (by simp [mutsOf]) ?_; omega; omega; omega; omega; omega; omega; omega)
      | (simp (disch := omega) [t0, t1, hg, encG, hc]))
    all_goals try (simp [t0, t1, hg, encG, hc, Back]; done)
end Cal
