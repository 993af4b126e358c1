import Derived.Test.YthaebckdhcnkfaaTA
import Derived.Test.YthaebckdhcnkfaaSim2
set_option linter.unusedSimpArgs false
set_option linter.unusedVariables false
namespace Cal
open Go Go.Proofs
set_option maxRecDepth 100000
theorem arcs_up {g : Gr} (hg : VG g) {u : Int} (h0 : 0 ≤ u) (h1 : u < g.edgeOf.length) : ∀ (n : Nat) (i j : Int), j = i + n → 0 < n → rd g.first u ≤ i → j < rd g.first (u + 1) → rd g.edgeOf (rd g.to i) < rd g.edgeOf (rd g.to j)
  | 0, i, j, _, h, _, _ => by omega
  | n + 1, i, j, e, _, h2, h3 => by
    have ha := hg.a u.toNat (by omega)
    unfold AOK at ha
    rw [Int.toNat_of_nonneg h0] at ha
    have s := ha j (by omega) h3
    by_cases hn : n = 0
    · subst hn
      rw [show j - 1 = i by omega] at s
      exact s
    · have := arcs_up hg h0 h1 n i (j - 1) (by omega) (by omega) h2 (by omega)
      omega
theorem arcW_found {g : Gr} (hg : VG g) {u v : Int} (h0 : 0 ≤ u) (h1 : u < g.edgeOf.length) (h : 0 ≤ arcW g u v) : rd g.first u ≤ arcW g u v ∧ arcW g u v < rd g.first (u + 1) ∧ rd g.to (arcW g u v) = v := by
  have b1 := hg.firstI (v := u) h0 (by omega)
  have := scan_found (p := fun k => rd g.to k == v) b1.1 h
  unfold arcW
  refine ⟨this.1, ?_, by simpa using this.2.2⟩
  have h2 := this.2.1
  have h3 := this.1
  omega
theorem arcE_found {g : Gr} (hg : VG g) {u e : Int} (h0 : 0 ≤ u) (h1 : u < g.edgeOf.length) (h : 0 ≤ arcE g u e) : rd g.first u ≤ arcE g u e ∧ arcE g u e < rd g.first (u + 1) ∧ rd g.edgeOf (rd g.to (arcE g u e)) = e := by
  have b1 := hg.firstI (v := u) h0 (by omega)
  have := scan_found (p := fun k => rd g.edgeOf (rd g.to k) == e) b1.1 h
  unfold arcE
  refine ⟨this.1, ?_, by simpa using this.2.2⟩
  have h2 := this.2.1
  have h3 := this.1
  omega
theorem arc_eq {g : Gr} (hg : VG g) {u v : Int} (h0 : 0 ≤ u) (h1 : u < g.edgeOf.length) (h : 0 ≤ arcW g u v) : arcE g u (rd g.edgeOf v) = arcW g u v := by
  obtain ⟨a1, a2, a3⟩ := arcW_found hg h0 h1 h
  have b1 := hg.firstI (v := u) h0 (by omega)
  have := scan_least (p := fun k => rd g.edgeOf (rd g.to k) == rd g.edgeOf v) (n := (rd g.first (u + 1) - rd g.first u).toNat) (j := arcW g u v) b1.1 a1 (by omega) (by simp [a3])
  have hE : 0 ≤ arcE g u (rd g.edgeOf v) ∧ arcE g u (rd g.edgeOf v) ≤ arcW g u v := this
  obtain ⟨c1, c2, c3⟩ := arcE_found hg h0 h1 hE.1
  by_cases he : arcE g u (rd g.edgeOf v) = arcW g u v
  · exact he
  · have := arcs_up hg h0 h1 (arcW g u v - arcE g u (rd g.edgeOf v)).toNat (arcE g u (rd g.edgeOf v)) (arcW g u v) (by omega) (by omega) c1 a2
    rw [c3, a3] at this
    omega
theorem arc_back {g : Gr} (hg : VG g) {u v e : Int} (h0 : 0 ≤ u) (h1 : u < g.edgeOf.length) (h : 0 ≤ arcE g u e) (hv : rd g.to (arcE g u e) = v) : 0 ≤ arcW g u v := by
  obtain ⟨c1, c2, c3⟩ := arcE_found hg h0 h1 h
  have b1 := hg.firstI (v := u) h0 (by omega)
  exact (scan_least (p := fun k => rd g.to k == v) (n := (rd g.first (u + 1) - rd g.first u).toNat) (j := arcE g u e) b1.1 c1 (by omega) (by simp [hv])).1
theorem arcE_lt {g : Gr} (hg : VG g) {u e : Int} (h0 : 0 ≤ u) (h1 : u < g.edgeOf.length) : -1 ≤ arcE g u e ∧ arcE g u e < g.to.length := by
  have b1 := hg.firstI (v := u) h0 (by omega)
  have b2 := hg.firstI (v := u + 1) (by omega) (by omega)
  have := scan_le (p := fun k => rd g.edgeOf (rd g.to k) == e) (n := (rd g.first (u + 1) - rd g.first u).toNat) b1.1
  refine ⟨this.1, ?_⟩
  by_cases h : 0 ≤ arcE g u e
  · have := arcE_found hg h0 h1 h
    omega
  · omega
/-- The edges of a path's first vertices. -/
def edgesTo (g : Gr) (p : List Int) (k : Nat) : List Int := (List.range k).map fun i => rd g.edgeOf (rd p (i : Nat))
@[simp] theorem edgesTo_length (g : Gr) (p : List Int) (k : Nat) : (edgesTo g p k).length = k := by simp [edgesTo]
theorem edgesTo_succ (g : Gr) (p : List Int) (k : Nat) : edgesTo g p (k + 1) = edgesTo g p k ++ [rd g.edgeOf (rd p k)] := by simp [edgesTo, List.range_succ]
theorem cost_le' {g : Gr} {p : List Int} (hg : VG g) {m : Nat} (hq : ∀ i < m, POK g p i) : ∀ k : Nat, k < m → 0 ≤ costTo g p k ∧ costTo g p k ≤ 1048576 + k * 3145728
  | 0, h => by
    have h1 := hq 0 h
    unfold POK at h1
    have h2 := hg.edgeI h1.1 h1.2.1
    have h3 := hg.weightI h2.1 (by have := hg.l2; omega)
    unfold costTo
    simp only [Int.natCast_zero] at *
    omega
  | k + 1, h => by
    have ih := cost_le' hg hq k (by omega)
    have h1 := hq k (by omega)
    have h2 := hq (k + 1) h
    unfold POK at h1 h2
    push_cast at h2
    rw [show (k : Int) + 1 - 1 = k by omega] at h2
    have h3 := arcW_lt (w := rd p ((k : Int) + 1)) hg h1.1 h1.2.1
    have h4 := hg.toI (h2.2.2.2 (by omega)) h3.2
    unfold costTo
    push_cast
    omega
/-- What following a path gives. -/
noncomputable def folR (g : Gr) (p : List Int) : RV := if VG g ∧ IsPath g p then .tup [.own 1 (intRow (edgesTo g p p.length)), .t (.v (.int .i64 (costTo g p (p.length - 1)))), .t (.v (.bool true))] else .tup [.t (.v (.slice none 0 0)), .t (.v (.int .i64 0)), .t (.v (.bool false))]
theorem folR_no {g : Gr} {p : List Int} (h : VG g → ¬ IsPath g p) : folR g p = .tup [.t (.v (.slice none 0 0)), .t (.v (.int .i64 0)), .t (.v (.bool false))] := by
  unfold folR
  rw [if_neg fun k => h k.1 k.2]
theorem folR_yes {g : Gr} {p : List Int} (h : VG g) (k : IsPath g p) : folR g p = .tup [.own 1 (intRow (edgesTo g p p.length)), .t (.v (.int .i64 (costTo g p (p.length - 1)))), .t (.v (.bool true))] := by
  unfold folR
  rw [if_pos ⟨h, k⟩]
theorem folR_flat (g : Gr) (p : List Int) : (folR g p).flat := by
  unfold folR
  split <;> simp [RV.flat, RV.flats, T.flat, flat_intRow]
  exact flat_intRow _
/-- What has been gathered of a path. -/
def FW (g : Gr) (p : List Int) (k : Nat) (s : St) : Prop := if k = 0 then s.tm 7 = .t (.v (.slice none 0 0)) else s.tm 7 = .row (50, 0) 1 0 k ∧ s.ob (50, 0) = some (.row 1 (intRow (edgesTo g p k))) ∧ s.tm 8 = .t (.v (.int .i64 (costTo g p (k - 1))))
/-- The code of impl.followed. -/
def k53 : Code1 :=
  (.seq
    (.region [2] false ([]) [
      ⟨some 2, Op.box 27 (Operand.tmp 0), none⟩,
      ⟨some 4, Op.assign (Operand.const (Value.slice none 0 0)), none⟩,
      ⟨some 5, Op.assign (Operand.const (Value.int IntKind.i64 0)), none⟩,
      ⟨some 6, Op.assign (Operand.const (Value.bool false)), none⟩])
    (.seq
      (.seq
        (.region [14] false ([]) [
          ⟨some 13, Op.load 27 (Operand.tmp 2), none⟩,
          ⟨some 14, Op.call { callee := Callee.value (Operand.func 14), args := #[Operand.tmp 13], argTypes := #[27] }, none⟩,
          ⟨some 15, Op.unOp UnOp.not 4 (Operand.tmp 14), none⟩,
          ⟨some 16, Op.move (Operand.tmp 15), none⟩,
          ⟨some 17, Op.move (Operand.tmp 1), some (16, false)⟩,
          ⟨some 18, Op.call { callee := Callee.builtin Builtin.len, args := #[Operand.tmp 17], argTypes := #[22] }, some (16, false)⟩,
          ⟨some 19, Op.binOp BinOp.eql 3 (Operand.tmp 18) (Operand.const (Value.int IntKind.i64 0)) 3, some (16, false)⟩,
          ⟨some 20, Op.pick (Operand.tmp 16) (Operand.const (Value.bool true)) (Operand.tmp 19), none⟩,
          ⟨some 21, Op.move (Operand.tmp 20), none⟩,
          ⟨some 22, Op.move (Operand.tmp 1), some (21, false)⟩,
          ⟨some 23, Op.call { callee := Callee.builtin Builtin.len, args := #[Operand.tmp 22], argTypes := #[22] }, some (21, false)⟩,
          ⟨some 24, Op.binOp BinOp.gtr 3 (Operand.tmp 23) (Operand.const (Value.int IntKind.i64 10000)) 3, some (21, false)⟩,
          ⟨some 25, Op.pick (Operand.tmp 21) (Operand.const (Value.bool true)) (Operand.tmp 24), none⟩])
        (.cond (Operand.tmp 25)
          (.seq
            (.region [] false ([]) [
              ⟨some 4, Op.assign (Operand.const (Value.slice none 0 0)), none⟩,
              ⟨some 5, Op.assign (Operand.const (Value.int IntKind.i64 0)), none⟩,
              ⟨some 6, Op.assign (Operand.const (Value.bool false)), none⟩])
            .ret)
          .skip))
      (.seq
        (.region [] false ([]) [
          ⟨some 7, Op.assign (Operand.const (Value.slice none 0 0)), none⟩])
        (.seq
          (.region [] false ([]) [
            ⟨some 8, Op.assign (Operand.const (Value.int IntKind.i64 0)), none⟩])
          (.seq
            (.seq
              (.region [] false ([]) [
                ⟨some 26, Op.move (Operand.tmp 1), none⟩,
                ⟨some 27, Op.call { callee := Callee.builtin Builtin.len, args := #[Operand.tmp 26], argTypes := #[22] }, none⟩,
                ⟨some 28, Op.move (Operand.const (Value.int IntKind.i64 0)), none⟩])
              (.block 0
                (.loop
                  (.seq
                    (.region [] false ([]) [
                      ⟨some 29, Op.binOp BinOp.lss 3 (Operand.tmp 28) (Operand.tmp 27) 3, none⟩])
                    (.seq
                      (.cond (Operand.tmp 29)
                        .skip
                        (.exit 0))
                      (.seq
                        (.block 1
                          (.seq
                            (.region [] false ([]) [
                              ⟨some 30, Op.move (Operand.tmp 28), none⟩,
                              ⟨some 31, Op.indexAddr 22 (Operand.tmp 26) (Operand.tmp 28), none⟩,
                              ⟨some 32, Op.load 2 (Operand.tmp 31), none⟩,
                              ⟨some 9, Op.assign (Operand.tmp 30), none⟩,
                              ⟨some 10, Op.assign (Operand.tmp 32), none⟩])
                            (.seq
                              (.seq
                                (.region [] false ([]) [
                                  ⟨some 33, Op.move (Operand.tmp 10), none⟩,
                                  ⟨some 34, Op.binOp BinOp.lss 2 (Operand.tmp 33) (Operand.const (Value.int IntKind.i64 0)) 2, none⟩,
                                  ⟨some 35, Op.move (Operand.tmp 34), none⟩,
                                  ⟨some 36, Op.move (Operand.tmp 10), some (35, false)⟩,
                                  ⟨some 37, Op.fieldAddr 27 (Operand.tmp 2) 0, some (35, false)⟩,
                                  ⟨some 38, Op.load 22 (Operand.tmp 37), some (35, false)⟩,
                                  ⟨some 39, Op.call { callee := Callee.builtin Builtin.len, args := #[Operand.tmp 38], argTypes := #[22] }, some (35, false)⟩,
                                  ⟨some 40, Op.binOp BinOp.geq 2 (Operand.tmp 36) (Operand.tmp 39) 2, some (35, false)⟩,
                                  ⟨some 41, Op.pick (Operand.tmp 35) (Operand.const (Value.bool true)) (Operand.tmp 40), none⟩])
                                (.cond (Operand.tmp 41)
                                  (.seq
                                    (.region [] false ([]) [
                                      ⟨some 4, Op.assign (Operand.const (Value.slice none 0 0)), none⟩,
                                      ⟨some 5, Op.assign (Operand.const (Value.int IntKind.i64 0)), none⟩,
                                      ⟨some 6, Op.assign (Operand.const (Value.bool false)), none⟩])
                                    .ret)
                                  .skip))
                              (.seq
                                (.region [] false ([]) [
                                  ⟨some 42, Op.fieldAddr 27 (Operand.tmp 2) 0, none⟩,
                                  ⟨some 43, Op.load 22 (Operand.tmp 42), none⟩,
                                  ⟨some 44, Op.move (Operand.tmp 10), none⟩,
                                  ⟨some 45, Op.indexAddr 22 (Operand.tmp 43) (Operand.tmp 44), none⟩,
                                  ⟨some 46, Op.load 2 (Operand.tmp 45), none⟩,
                                  ⟨some 11, Op.assign (Operand.tmp 46), none⟩])
                                (.seq
                                  (.region [49, 50] false ([]) [
                                    ⟨some 47, Op.move (Operand.tmp 7), none⟩,
                                    ⟨some 48, Op.move (Operand.tmp 11), none⟩,
                                    ⟨some 49, Op.buildSlice 22 1 #[(0, Operand.tmp 48)], none⟩,
                                    ⟨some 50, Op.call { callee := Callee.builtin Builtin.append, args := #[Operand.tmp 47, Operand.tmp 49], argTypes := #[22, 22] }, none⟩,
                                    ⟨some 7, Op.assign (Operand.tmp 50), none⟩])
                                  (.seq
                                    (.seq
                                      (.region [] false ([]) [
                                        ⟨some 51, Op.move (Operand.tmp 9), none⟩,
                                        ⟨some 52, Op.binOp BinOp.eql 3 (Operand.tmp 51) (Operand.const (Value.int IntKind.i64 0)) 3, none⟩])
                                      (.cond (Operand.tmp 52)
                                        (.seq
                                          (.seq
                                            (.region [] false ([]) [
                                              ⟨some 53, Op.fieldAddr 27 (Operand.tmp 2) 5, none⟩,
                                              ⟨some 54, Op.load 22 (Operand.tmp 53), none⟩,
                                              ⟨some 55, Op.move (Operand.tmp 11), none⟩,
                                              ⟨some 56, Op.indexAddr 22 (Operand.tmp 54) (Operand.tmp 55), none⟩,
                                              ⟨some 57, Op.load 2 (Operand.tmp 56), none⟩,
                                              ⟨some 58, Op.move (Operand.tmp 10), none⟩,
                                              ⟨some 59, Op.binOp BinOp.neq 2 (Operand.tmp 57) (Operand.tmp 58) 2, none⟩])
                                            (.cond (Operand.tmp 59)
                                              (.seq
                                                (.region [] false ([]) [
                                                  ⟨some 4, Op.assign (Operand.const (Value.slice none 0 0)), none⟩,
                                                  ⟨some 5, Op.assign (Operand.const (Value.int IntKind.i64 0)), none⟩,
                                                  ⟨some 6, Op.assign (Operand.const (Value.bool false)), none⟩])
                                                .ret)
                                              .skip))
                                          (.seq
                                            (.region [] false ([]) [
                                              ⟨some 60, Op.fieldAddr 27 (Operand.tmp 2) 6, none⟩,
                                              ⟨some 61, Op.load 22 (Operand.tmp 60), none⟩,
                                              ⟨some 62, Op.move (Operand.tmp 11), none⟩,
                                              ⟨some 63, Op.indexAddr 22 (Operand.tmp 61) (Operand.tmp 62), none⟩,
                                              ⟨some 64, Op.load 2 (Operand.tmp 63), none⟩,
                                              ⟨some 8, Op.assign (Operand.tmp 64), none⟩])
                                            (.exit 1)))
                                        .skip))
                                    (.seq
                                      (.region [72] true ([]) [
                                        ⟨some 65, Op.load 27 (Operand.tmp 2), none⟩,
                                        ⟨some 66, Op.move (Operand.tmp 1), none⟩,
                                        ⟨some 67, Op.move (Operand.tmp 9), none⟩,
                                        ⟨some 68, Op.binOp BinOp.sub 3 (Operand.tmp 67) (Operand.const (Value.int IntKind.i64 1)) 3, none⟩,
                                        ⟨some 69, Op.indexAddr 22 (Operand.tmp 66) (Operand.tmp 68), none⟩,
                                        ⟨some 70, Op.load 2 (Operand.tmp 69), none⟩,
                                        ⟨some 71, Op.move (Operand.tmp 11), none⟩,
                                        ⟨some 72, Op.call { callee := Callee.value (Operand.func 55), args := #[Operand.tmp 65, Operand.tmp 70, Operand.tmp 71], argTypes := #[27, 2, 2] }, none⟩,
                                        ⟨some 12, Op.assign (Operand.tmp 72), none⟩])
                                      (.seq
                                        (.seq
                                          (.region [] false ([]) [
                                            ⟨some 73, Op.move (Operand.tmp 12), none⟩,
                                            ⟨some 74, Op.binOp BinOp.lss 2 (Operand.tmp 73) (Operand.const (Value.int IntKind.i64 0)) 2, none⟩,
                                            ⟨some 75, Op.move (Operand.tmp 74), none⟩,
                                            ⟨some 76, Op.fieldAddr 27 (Operand.tmp 2) 3, some (75, false)⟩,
                                            ⟨some 77, Op.load 22 (Operand.tmp 76), some (75, false)⟩,
                                            ⟨some 78, Op.move (Operand.tmp 12), some (75, false)⟩,
                                            ⟨some 79, Op.indexAddr 22 (Operand.tmp 77) (Operand.tmp 78), some (75, false)⟩,
                                            ⟨some 80, Op.load 2 (Operand.tmp 79), some (75, false)⟩,
                                            ⟨some 81, Op.move (Operand.tmp 10), some (75, false)⟩,
                                            ⟨some 82, Op.binOp BinOp.neq 2 (Operand.tmp 80) (Operand.tmp 81) 2, some (75, false)⟩,
                                            ⟨some 83, Op.pick (Operand.tmp 75) (Operand.const (Value.bool true)) (Operand.tmp 82), none⟩])
                                          (.cond (Operand.tmp 83)
                                            (.seq
                                              (.region [] false ([]) [
                                                ⟨some 4, Op.assign (Operand.const (Value.slice none 0 0)), none⟩,
                                                ⟨some 5, Op.assign (Operand.const (Value.int IntKind.i64 0)), none⟩,
                                                ⟨some 6, Op.assign (Operand.const (Value.bool false)), none⟩])
                                              .ret)
                                            .skip))
                                        (.region [] false ([]) [
                                          ⟨some 84, Op.move (Operand.tmp 8), none⟩,
                                          ⟨some 85, Op.fieldAddr 27 (Operand.tmp 2) 4, none⟩,
                                          ⟨some 86, Op.load 22 (Operand.tmp 85), none⟩,
                                          ⟨some 87, Op.move (Operand.tmp 12), none⟩,
                                          ⟨some 88, Op.indexAddr 22 (Operand.tmp 86) (Operand.tmp 87), none⟩,
                                          ⟨some 89, Op.load 2 (Operand.tmp 88), none⟩,
                                          ⟨some 90, Op.binOp BinOp.add 2 (Operand.tmp 84) (Operand.tmp 89) 2, none⟩,
                                          ⟨some 8, Op.assign (Operand.tmp 90), none⟩])))))))))
                        (.region [] false ([]) [
                          ⟨some 91, Op.binOp BinOp.add 3 (Operand.tmp 28) (Operand.const (Value.int IntKind.i64 1)) 3, none⟩,
                          ⟨some 28, Op.move (Operand.tmp 91), none⟩])))))))
            (.seq
              (.region [] false ([]) [
                ⟨some 92, Op.move (Operand.tmp 7), none⟩,
                ⟨some 93, Op.move (Operand.tmp 8), none⟩,
                ⟨some 4, Op.assign (Operand.tmp 92), none⟩,
                ⟨some 5, Op.assign (Operand.tmp 93), none⟩,
                ⟨some 6, Op.assign (Operand.const (Value.bool true)), none⟩])
              .ret))))))
set_option maxHeartbeats 0 in
theorem followed_c (g : Gr) (p : List Int) (h : sumG g ≤ 1048576) (hp : p.length ≤ 1048576) :
    CallsF Try.prog 53 [.agg (encG g), .val (ints p)] (folR g p) [] := by
  unfold sumG at h
  refine callsF_of_wp2 (fn := Try.f53) (k := k53) (fun _ => []) mixed (by kernel_rfl) rfl (by kernel_rfl) (by kernel_rfl) (by kernel_rfl) rfl (by simp [Try.f53]) (by simp [Arg.like]) ?_
  generalize hst : St.enter [.agg (encG g), .val (ints p)] = st0
  have t0 : st0.tm 0 = .agg ((encG g) |>.map .t) := by rw [← hst]; rfl
  have t1 : st0.tm 1 = .t (ints p) := by rw [← hst]; rfl
  clear hst
  unfold k53
  simp [encG] at t0
  by_cases hg : VG g
  · have l1 := hg.l1
    have l2 := hg.l2
    have l3 := hg.l3
    have l5 := hg.l5
    have l6 := hg.l6
    have l7 := hg.l7
    repeat' (first
      | (refine wp2_seq fun K hK => ?_)
      | (refine wp1_seq fun K hK => ?_)
      | (refine M_cons fun K hK => ?_)
      | (refine hK _ ?_; clear hK K)
      | (clear hK K; refine hK _ ?_; clear hK K)
      | (clear hK K; clear hK K; refine hK _ ?_; clear hK K)
      | (clear hK K; clear hK K; clear hK K; refine hK _ ?_; clear hK K)
      | (refine hX _ ?_; clear hX hY X Y)
      | (refine hY _ ?_; clear hX hY X Y)
      | (refine wp2_block ?_)
      | (refine wp1_block ?_)
      | (refine wp2_region ?_)
      | (refine wp1_region ?_)
      | (refine wp2_cond fun X Y hX hY => ?_)
      | (refine wp1_cond fun X Y hX hY => ?_)
      | (refine condK_of (fun c => ?_) (fun c => ?_) <;> (try simp [-List.length_eq_zero_iff] at c))
      | (refine guard1_or (fun c => ?_) (fun c => ?_) <;> (have cc := c) <;> (try simp [-List.length_eq_zero_iff] at cc) <;> (try simp (disch := omega) [t0, t1, hg, encG, c]))
      | (refine callT_fl (vgI g ?_ ?_ ?_ ?_ ?_ ?_ ?_) (by simp [St.args, St.arg, t0, t1, hg, encG] <;> first | rfl | exact ⟨rfl, rfl⟩ | exact ⟨rfl, rfl, rfl⟩) (by first | (simp [RV.flat, RV.flats, T.flat]; done) | (unfold RV.flat; exact flat_intRow _) | (repeat' first | exact flat_intRow _ | exact trivial | constructor | unfold RV.flat | unfold RV.flats)) (by simp [mutsOf]) ?_; omega; omega; omega; omega; omega; omega; omega)
      | (simp (disch := omega) [t0, t1, hg, encG]))
    all_goals try (simp [t0, t1, hg, encG, Back]; done)
    · have hn := folR_no (g := g) (p := p) fun _ k => by have := k.pos; omega
      simp [Back, hn]
    · have hn := folR_no (g := g) (p := p) fun _ k => by have := k.le; omega
      simp [Back, hn]
    have p1 : 0 < p.length := by omega
    have p2 : p.length ≤ 10000 := by omega
    have hJ : ∀ s, FW g p p.length s → (∀ i : Nat, i < p.length → POK g p i) → K s := by
      intro s hs hq
      have hy := folR_yes hg (⟨p1, p2, hq⟩ : IsPath g p)
      unfold FW at hs
      rw [if_neg (by omega)] at hs
      obtain ⟨s7, o7, s8⟩ := hs
      repeat' (first
        | (refine wp2_seq fun K hK => ?_)
        | (refine wp1_seq fun K hK => ?_)
        | (refine M_cons fun K hK => ?_)
        | (refine hK _ ?_; clear hK K)
        | (clear hK K; refine hK _ ?_; clear hK K)
        | (clear hK K; clear hK K; refine hK _ ?_; clear hK K)
        | (clear hK K; clear hK K; clear hK K; refine hK _ ?_; clear hK K)
        | (refine hX _ ?_; clear hX hY X Y)
        | (refine hY _ ?_; clear hX hY X Y)
        | (refine wp2_block ?_)
        | (refine wp1_block ?_)
        | (refine wp2_region ?_)
        | (refine wp1_region ?_)
        | (refine wp2_cond fun X Y hX hY => ?_)
        | (refine wp1_cond fun X Y hX hY => ?_)
        | (refine condK_of (fun c => ?_) (fun c => ?_) <;> (try simp [-List.length_eq_zero_iff] at c))
        | (refine guard1_or (fun c => ?_) (fun c => ?_) <;> (have cc := c) <;> (try simp [-List.length_eq_zero_iff] at cc) <;> (try simp (disch := omega) [s7, o7, s8, hy, c]))
        | (simp (disch := omega) [s7, o7, s8, hy]))
      all_goals try (simp [s7, o7, s8, hy, Back]; done)
    clear hK
    refine wp2_loop (fun n s => ∃ k : Nat, GB g s ∧ s.tm 1 = .t (ints p) ∧ s.tm 26 = .t (ints p) ∧ s.tm 27 = .t (.v (.int .i64 p.length)) ∧ s.tm 28 = .t (.v (.int .i64 k)) ∧ FW g p k s ∧ k ≤ p.length ∧ n = p.length - k ∧ ∀ i < k, POK g p i) p.length ?_ ?_
    · exact ⟨0, by simp [GB, FW, t1]⟩
    · rintro n s ⟨k, ⟨s2, o⟩, s1, s26, s27, s28, hw, hk, rfl, hq⟩ K' hK'
      have d1 : 0 ≤ rd p k → rd p k < g.edgeOf.length → 0 ≤ rd g.edgeOf (rd p k) ∧ rd g.edgeOf (rd p k) < g.start.length := fun a b => hg.edgeI a b
      by_cases hk0 : k = 0
      · subst hk0
        unfold FW at hw
        rw [if_pos rfl] at hw
        have d2 : 0 ≤ rd p 0 → rd p 0 < g.edgeOf.length → 0 ≤ rd g.edgeOf (rd p 0) ∧ rd g.edgeOf (rd p 0) < g.start.length := fun a b => hg.edgeI a b
        simp only [Int.natCast_zero] at *
        repeat' (first
          | (refine wp2_seq fun K hK => ?_)
          | (refine wp1_seq fun K hK => ?_)
          | (refine M_cons fun K hK => ?_)
          | (refine hK _ ?_; clear hK K)
          | (clear hK K; refine hK _ ?_; clear hK K)
          | (clear hK K; clear hK K; refine hK _ ?_; clear hK K)
          | (clear hK K; clear hK K; clear hK K; refine hK _ ?_; clear hK K)
          | (refine hX _ ?_; clear hX hY X Y)
          | (refine hY _ ?_; clear hX hY X Y)
          | (refine wp2_block ?_)
          | (refine wp1_block ?_)
          | (refine wp2_rename (mk := [49, 50]) 50 60050 (by decide) ?_)
          | (refine wp2_region ?_)
          | (refine wp1_region ?_)
          | (refine wp2_cond fun X Y hX hY => ?_)
          | (refine wp1_cond fun X Y hX hY => ?_)
          | (refine condK_of (fun c => ?_) (fun c => ?_) <;> (try simp [-List.length_eq_zero_iff] at c))
          | (refine guard1_or (fun c => ?_) (fun c => ?_) <;> (have cc := c) <;> (try simp [-List.length_eq_zero_iff] at cc) <;> (try simp (disch := omega) [s2, o, s1, s26, s27, s28, hw, c]))
          | (simp (disch := omega) [s2, o, s1, s26, s27, s28, hw]))
        all_goals try (simp [s2, o, s1, s26, s27, s28, hw, Back]; done)
        all_goals first
          | omega
          | (have hn := folR_no (g := g) (p := p) fun _ k => (by have hv := k.ok 0 p1; simp [POK] at hv; omega)
             simp [Back, hn]; done)
          | skip
        refine hK' (p.length - 1) _ (by omega) ⟨1, ?_⟩
        simp [GB, FW, s2, o, s1, s26, s27, edgesTo, costTo]
        exact ⟨rfl, by omega, by simp [POK]; omega⟩
      · have hk1 : 0 < k := by omega
        unfold FW at hw
        rw [if_neg hk0] at hw
        obtain ⟨s7, o7, s8⟩ := hw
        have q1 := hq (k - 1) (by omega)
        unfold POK at q1
        rw [show ((k - 1 : Nat) : Int) = (k : Int) - 1 by omega] at q1
        have e1 := arcE_lt (e := rd g.edgeOf (rd p k)) hg q1.1 q1.2.1
        have e2 : 0 ≤ arcE g (rd p ((k : Int) - 1)) (rd g.edgeOf (rd p k)) → 0 ≤ rd g.cost (arcE g (rd p ((k : Int) - 1)) (rd g.edgeOf (rd p k))) ∧ rd g.cost (arcE g (rd p ((k : Int) - 1)) (rd g.edgeOf (rd p k))) ≤ 3145728 := fun hh => (hg.toI hh e1.2).2.2
        have e3 := cost_le' hg hq (k - 1) (by omega)
        have e4 : 0 ≤ arcW g (rd p ((k : Int) - 1)) (rd p k) → arcE g (rd p ((k : Int) - 1)) (rd g.edgeOf (rd p k)) = arcW g (rd p ((k : Int) - 1)) (rd p k) := fun hh => arc_eq hg q1.1 q1.2.1 hh
        have e5 : 0 ≤ arcE g (rd p ((k : Int) - 1)) (rd g.edgeOf (rd p k)) → rd g.to (arcE g (rd p ((k : Int) - 1)) (rd g.edgeOf (rd p k))) = rd p k → 0 ≤ arcW g (rd p ((k : Int) - 1)) (rd p k) := fun a b => arc_back hg q1.1 q1.2.1 a b
        have e6 : 0 ≤ arcW g (rd p ((k : Int) - 1)) (rd p k) → rd g.to (arcW g (rd p ((k : Int) - 1)) (rd p k)) = rd p k := fun hh => (arcW_found hg q1.1 q1.2.1 hh).2.2
        have e7 : arcE g (rd p ((k : Int) - 1)) (rd g.edgeOf (rd p k)) = arcW g (rd p ((k : Int) - 1)) (rd p k) → rd g.to (arcE g (rd p ((k : Int) - 1)) (rd g.edgeOf (rd p k))) = rd g.to (arcW g (rd p ((k : Int) - 1)) (rd p k)) := fun hh => by rw [hh]
        have e8 : (k : Int) - 1 = ((k - 1 : Nat) : Int) := by omega
        have e9 : (edgesTo g p k).length = k := edgesTo_length g p k
        repeat' (first
          | (refine wp2_seq fun K hK => ?_)
          | (refine wp1_seq fun K hK => ?_)
          | (refine M_cons fun K hK => ?_)
          | (refine hK _ ?_; clear hK K)
          | (clear hK K; refine hK _ ?_; clear hK K)
          | (clear hK K; clear hK K; refine hK _ ?_; clear hK K)
          | (clear hK K; clear hK K; clear hK K; refine hK _ ?_; clear hK K)
          | (refine hX _ ?_; clear hX hY X Y)
          | (refine hY _ ?_; clear hX hY X Y)
          | (refine wp2_block ?_)
          | (refine wp1_block ?_)
          | (refine wp2_rename (mk := [49, 50]) 50 60050 (by decide) ?_)
          | (refine wp2_region ?_)
          | (refine wp1_region ?_)
          | (refine wp2_cond fun X Y hX hY => ?_)
          | (refine wp1_cond fun X Y hX hY => ?_)
          | (refine condK_of (fun c => ?_) (fun c => ?_) <;> (try simp [-List.length_eq_zero_iff] at c))
          | (refine guard1_or (fun c => ?_) (fun c => ?_) <;> (have cc := c) <;> (try simp [-List.length_eq_zero_iff] at cc) <;> (try simp (disch := omega) [s2, o, s1, s26, s27, s28, s7, o7, s8, hk0, encG, c]))
          | (refine callT_fl (arcE_c g _ _ hg ?_ ?_) (by simp [St.args, St.arg, s2, o, s1, s26, s27, s28, s7, o7, s8, hk0, encG] <;> first | rfl | exact ⟨rfl, rfl⟩ | exact ⟨rfl, rfl, rfl⟩) (by first | (simp [RV.flat, RV.flats, T.flat]; done) | (unfold RV.flat; exact flat_intRow _) | (repeat' first | exact flat_intRow _ | exact trivial | constructor | unfold RV.flat | unfold RV.flats)) (by simp [mutsOf]) ?_; omega; omega)
          | (simp (disch := omega) [s2, o, s1, s26, s27, s28, s7, o7, s8, hk0, encG]))
        all_goals try (simp [s2, o, s1, s26, s27, s28, s7, o7, s8, hk0, encG, Back]; done)
        all_goals first
          | omega
          | (have hn := folR_no (g := g) (p := p) fun _ j => (by have hv := j.ok k (by omega); unfold POK at hv; omega)
             simp [Back, hn]; done)
          | skip
        · have a0 := e5 cc c
          have a1 := e4 a0
          have a2 : costTo g p k = costTo g p (k - 1) + rd g.cost (arcW g (rd p ((k : Int) - 1)) (rd p k)) := by
            obtain ⟨j, rfl⟩ : ∃ j, k = j + 1 := ⟨k - 1, by omega⟩
            simp only [costTo, Nat.add_sub_cancel]
            push_cast
            rw [show (j : Int) + 1 - 1 = j by omega]
          refine hK' (p.length - (k + 1)) _ (by omega) ⟨k + 1, ?_⟩
          simp [GB, FW, s2, o, s1, s26, s27, edgesTo_succ, a1, a2]
          refine ⟨by omega, below_succ hq ?_⟩
          unfold POK
          omega
        · have hkl : k = p.length := by omega
          refine hJ _ ?_ fun i hi => hq i (by omega)
          rw [← hkl]
          simp [FW, hk0, s7, o7, s8]
  · have hn := folR_no (g := g) (p := p) fun k => absurd k hg
    repeat' (first
      | (refine wp2_seq fun K hK => ?_)
      | (refine wp1_seq fun K hK => ?_)
      | (refine M_cons fun K hK => ?_)
      | (refine hK _ ?_; clear hK K)
      | (clear hK K; refine hK _ ?_; clear hK K)
      | (clear hK K; clear hK K; refine hK _ ?_; clear hK K)
      | (clear hK K; clear hK K; clear hK K; refine hK _ ?_; clear hK K)
      | (refine hX _ ?_; clear hX hY X Y)
      | (refine hY _ ?_; clear hX hY X Y)
      | (refine wp2_block ?_)
      | (refine wp1_block ?_)
      | (refine wp2_region ?_)
      | (refine wp1_region ?_)
      | (refine wp2_cond fun X Y hX hY => ?_)
      | (refine wp1_cond fun X Y hX hY => ?_)
      | (refine condK_of (fun c => ?_) (fun c => ?_) <;> (try simp [-List.length_eq_zero_iff] at c))
      | (refine guard1_or (fun c => ?_) (fun c => ?_) <;> (have cc := c) <;> (try simp [-List.length_eq_zero_iff] at cc) <;> (try simp (disch := omega) [t0, t1, hg, encG, hn, c]))
      | (refine callT_fl (vgI g ?_ ?_ ?_ ?_ ?_ ?_ ?_) (by simp [St.args, St.arg, t0, t1, hg, encG, hn] <;> first | rfl | exact ⟨rfl, rfl⟩ | exact ⟨rfl, rfl, rfl⟩) (by first | (simp [RV.flat, RV.flats, T.flat]; done) | (unfold RV.flat; exact flat_intRow _) | (repeat' first | exact flat_intRow _ | exact trivial | constructor | unfold RV.flat | unfold RV.flats)) (by simp [mutsOf]) ?_; omega; omega; omega; omega; omega; omega; omega)
      | (simp (disch := omega) [t0, t1, hg, encG, hn]))
    all_goals try (simp [t0, t1, hg, encG, hn, Back]; done)
end Cal
