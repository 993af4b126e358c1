/- A part of the proof: a calculus of our own over the model's code, and contracts of the program's functions. -/
import Derived.Test.YthaebckdhcnkfaaG7
set_option linter.unusedSimpArgs false
set_option linter.unusedVariables false
namespace Cal
open Go Go.Proofs
set_option maxRecDepth 100000
theorem arcs_up {g : Gr} (hg : VG g) {u : Int} (h0 : 0 ≤ u) (h1 : u < g.edgeOf.length) : ∀ (n : Nat) (i j : Int), j = i + n → 0 < n → rd g.first u ≤ i → j < rd g.first (u + 1) → rd g.edgeOf (rd g.to i) < rd g.edgeOf (rd g.to j)
  | 0, i, j, _, h, _, _ => by omega
  | n + 1, i, j, e, _, h2, h3 => by
    have ha := hg.a u.toNat (by omega)
    unfold AOK at ha
    rw [Int.toNat_of_nonneg h0] at ha
    have s := ha j (by omega) h3
    by_cases hn : n = 0
    · subst hn
      rw [show j - 1 = i by omega] at s
      exact s
    · have := arcs_up hg h0 h1 n i (j - 1) (by omega) (by omega) h2 (by omega)
      omega
theorem arcW_found {g : Gr} (hg : VG g) {u v : Int} (h0 : 0 ≤ u) (h1 : u < g.edgeOf.length) (h : 0 ≤ arcW g u v) : rd g.first u ≤ arcW g u v ∧ arcW g u v < rd g.first (u + 1) ∧ rd g.to (arcW g u v) = v := by
  have b1 := hg.firstI (v := u) h0 (by omega)
  have := scan_found (p := fun k => rd g.to k == v) b1.1 h
  unfold arcW
  refine ⟨this.1, ?_, by simpa using this.2.2⟩
  have h2 := this.2.1
  have h3 := this.1
  omega
theorem arcE_found {g : Gr} (hg : VG g) {u e : Int} (h0 : 0 ≤ u) (h1 : u < g.edgeOf.length) (h : 0 ≤ arcE g u e) : rd g.first u ≤ arcE g u e ∧ arcE g u e < rd g.first (u + 1) ∧ rd g.edgeOf (rd g.to (arcE g u e)) = e := by
  have b1 := hg.firstI (v := u) h0 (by omega)
  have := scan_found (p := fun k => rd g.edgeOf (rd g.to k) == e) b1.1 h
  unfold arcE
  refine ⟨this.1, ?_, by simpa using this.2.2⟩
  have h2 := this.2.1
  have h3 := this.1
  omega
theorem arc_eq {g : Gr} (hg : VG g) {u v : Int} (h0 : 0 ≤ u) (h1 : u < g.edgeOf.length) (h : 0 ≤ arcW g u v) : arcE g u (rd g.edgeOf v) = arcW g u v := by
  obtain ⟨a1, a2, a3⟩ := arcW_found hg h0 h1 h
  have b1 := hg.firstI (v := u) h0 (by omega)
  have := scan_least (p := fun k => rd g.edgeOf (rd g.to k) == rd g.edgeOf v) (n := (rd g.first (u + 1) - rd g.first u).toNat) (j := arcW g u v) b1.1 a1 (by omega) (by simp [a3])
  have hE : 0 ≤ arcE g u (rd g.edgeOf v) ∧ arcE g u (rd g.edgeOf v) ≤ arcW g u v := this
  obtain ⟨c1, c2, c3⟩ := arcE_found hg h0 h1 hE.1
  by_cases he : arcE g u (rd g.edgeOf v) = arcW g u v
  · exact he
  · have := arcs_up hg h0 h1 (arcW g u v - arcE g u (rd g.edgeOf v)).toNat (arcE g u (rd g.edgeOf v)) (arcW g u v) (by omega) (by omega) c1 a2
    rw [c3, a3] at this
    omega
theorem arc_back {g : Gr} (hg : VG g) {u v e : Int} (h0 : 0 ≤ u) (h1 : u < g.edgeOf.length) (h : 0 ≤ arcE g u e) (hv : rd g.to (arcE g u e) = v) : 0 ≤ arcW g u v := by
  obtain ⟨c1, c2, c3⟩ := arcE_found hg h0 h1 h
  have b1 := hg.firstI (v := u) h0 (by omega)
  exact (scan_least (p := fun k => rd g.to k == v) (n := (rd g.first (u + 1) - rd g.first u).toNat) (j := arcE g u e) b1.1 c1 (by omega) (by simp [hv])).1
theorem arcE_lt {g : Gr} (hg : VG g) {u e : Int} (h0 : 0 ≤ u) (h1 : u < g.edgeOf.length) : -1 ≤ arcE g u e ∧ arcE g u e < g.to.length := by
  have b1 := hg.firstI (v := u) h0 (by omega)
  have b2 := hg.firstI (v := u + 1) (by omega) (by omega)
  have := scan_le (p := fun k => rd g.edgeOf (rd g.to k) == e) (n := (rd g.first (u + 1) - rd g.first u).toNat) b1.1
  refine ⟨this.1, ?_⟩
  by_cases h : 0 ≤ arcE g u e
  · have := arcE_found hg h0 h1 h
    omega
  · omega
/-- The edges of a path's first vertices. -/
def edgesTo (g : Gr) (p : List Int) (k : Nat) : List Int := (List.range k).map fun i => rd g.edgeOf (rd p (i : Nat))
@[simp] theorem edgesTo_length (g : Gr) (p : List Int) (k : Nat) : (edgesTo g p k).length = k := by simp [edgesTo]
theorem edgesTo_succ (g : Gr) (p : List Int) (k : Nat) : edgesTo g p (k + 1) = edgesTo g p k ++ [rd g.edgeOf (rd p k)] := by simp [edgesTo, List.range_succ]
theorem cost_le' {g : Gr} {p : List Int} (hg : VG g) {m : Nat} (hq : ∀ i < m, POK g p i) : ∀ k : Nat, k < m → 0 ≤ costTo g p k ∧ costTo g p k ≤ 1048576 + k * 3145728
  | 0, h => by
    have h1 := hq 0 h
    unfold POK at h1
    have h2 := hg.edgeI h1.1 h1.2.1
    have h3 := hg.weightI h2.1 (by have := hg.l2; omega)
    unfold costTo
    simp only [Int.natCast_zero] at *
    omega
  | k + 1, h => by
    have ih := cost_le' hg hq k (by omega)
    have h1 := hq k (by omega)
    have h2 := hq (k + 1) h
    unfold POK at h1 h2
    push_cast at h2
    rw [show (k : Int) + 1 - 1 = k by omega] at h2
    have h3 := arcW_lt (w := rd p ((k : Int) + 1)) hg h1.1 h1.2.1
    have h4 := hg.toI (h2.2.2.2 (by omega)) h3.2
    unfold costTo
    push_cast
    omega
/-- What following a path gives. -/
noncomputable def folR (g : Gr) (p : List Int) : RV := if VG g ∧ IsPath g p then .tup [.own 1 (intRow (edgesTo g p p.length)), .t (.v (.int .i64 (costTo g p (p.length - 1)))), .t (.v (.bool true))] else .tup [.t (.v (.slice none 0 0)), .t (.v (.int .i64 0)), .t (.v (.bool false))]
theorem folR_no {g : Gr} {p : List Int} (h : VG g → ¬ IsPath g p) : folR g p = .tup [.t (.v (.slice none 0 0)), .t (.v (.int .i64 0)), .t (.v (.bool false))] := by
  unfold folR
  rw [if_neg fun k => h k.1 k.2]
theorem folR_yes {g : Gr} {p : List Int} (h : VG g) (k : IsPath g p) : folR g p = .tup [.own 1 (intRow (edgesTo g p p.length)), .t (.v (.int .i64 (costTo g p (p.length - 1)))), .t (.v (.bool true))] := by
  unfold folR
  rw [if_pos ⟨h, k⟩]
theorem folR_flat (g : Gr) (p : List Int) : (folR g p).flat := by
  unfold folR
  split <;> simp [RV.flat, RV.flats, T.flat, flat_intRow]
  exact flat_intRow _
/-- What has been gathered of a path. -/
def FW (g : Gr) (p : List Int) (k : Nat) (s : St) : Prop := if k = 0 then s.tm 7 = .t (.v (.slice none 0 0)) else s.tm 7 = .row (50, 0) 1 0 k ∧ s.ob (50, 0) = some (.row 1 (intRow (edgesTo g p k))) ∧ s.tm 8 = .t (.v (.int .i64 (costTo g p (k - 1))))
/-- The code of impl.followed. -/
def k53 : Code1 :=
  (.seq
    (.region [2] false ([]) [
      ⟨some 2, Op.box 27 (Operand.tmp 0), none⟩,
      ⟨some 4, Op.assign (Operand.const (Value.slice none 0 0)), none⟩,
      ⟨some 5, Op.assign (Operand.const (Value.int IntKind.i64 0)), none⟩,
      ⟨some 6, Op.assign (Operand.const (Value.bool false)), none⟩])
    (.seq
      (.seq
        (.region [14] false ([]) [
          ⟨some 13, Op.load 27 (Operand.tmp 2), none⟩,
          ⟨some 14, Op.call { callee := Callee.value (Operand.func 14), args := #[Operand.tmp 13], argTypes := #[27] }, none⟩,
          ⟨some 15, Op.unOp UnOp.not 4 (Operand.tmp 14), none⟩,
          ⟨some 16, Op.move (Operand.tmp 15), none⟩,
          ⟨some 17, Op.move (Operand.tmp 1), some (16, false)⟩,
          ⟨some 18, Op.call { callee := Callee.builtin Builtin.len, args := #[Operand.tmp 17], argTypes := #[22] }, some (16, false)⟩,
          ⟨some 19, Op.binOp BinOp.eql 3 (Operand.tmp 18) (Operand.const (Value.int IntKind.i64 0)) 3, some (16, false)⟩,
          ⟨some 20, Op.pick (Operand.tmp 16) (Operand.const (Value.bool true)) (Operand.tmp 19), none⟩,
          ⟨some 21, Op.move (Operand.tmp 20), none⟩,
          ⟨some 22, Op.move (Operand.tmp 1), some (21, false)⟩,
          ⟨some 23, Op.call { callee := Callee.builtin Builtin.len, args := #[Operand.tmp 22], argTypes := #[22] }, some (21, false)⟩,
          ⟨some 24, Op.binOp BinOp.gtr 3 (Operand.tmp 23) (Operand.const (Value.int IntKind.i64 10000)) 3, some (21, false)⟩,
          ⟨some 25, Op.pick (Operand.tmp 21) (Operand.const (Value.bool true)) (Operand.tmp 24), none⟩])
        (.cond (Operand.tmp 25)
          (.seq
            (.region [] false ([]) [
              ⟨some 4, Op.assign (Operand.const (Value.slice none 0 0)), none⟩,
              ⟨some 5, Op.assign (Operand.const (Value.int IntKind.i64 0)), none⟩,
              ⟨some 6, Op.assign (Operand.const (Value.bool false)), none⟩])
            .ret)
          .skip))
      (.seq
        (.region [] false ([]) [
          ⟨some 7, Op.assign (Operand.const (Value.slice none 0 0)), none⟩])
        (.seq
          (.region [] false ([]) [
            ⟨some 8, Op.assign (Operand.const (Value.int IntKind.i64 0)), none⟩])
          (.seq
            (.seq
              (.region [] false ([]) [
                ⟨some 26, Op.move (Operand.tmp 1), none⟩,
                ⟨some 27, Op.call { callee := Callee.builtin Builtin.len, args := #[Operand.tmp 26], argTypes := #[22] }, none⟩,
                ⟨some 28, Op.move (Operand.const (Value.int IntKind.i64 0)), none⟩])
              (.block 0
                (.loop
                  (.seq
                    (.region [] false ([]) [
                      ⟨some 29, Op.binOp BinOp.lss 3 (Operand.tmp 28) (Operand.tmp 27) 3, none⟩])
                    (.seq
                      (.cond (Operand.tmp 29)
                        .skip
                        (.exit 0))
                      (.seq
                        (.block 1
                          (.seq
                            (.region [] false ([]) [
                              ⟨some 30, Op.move (Operand.tmp 28), none⟩,
                              ⟨some 31, Op.indexAddr 22 (Operand.tmp 26) (Operand.tmp 28), none⟩,
                              ⟨some 32, Op.load 2 (Operand.tmp 31), none⟩,
                              ⟨some 9, Op.assign (Operand.tmp 30), none⟩,
                              ⟨some 10, Op.assign (Operand.tmp 32), none⟩])
                            (.seq
                              (.seq
                                (.region [] false ([]) [
                                  ⟨some 33, Op.move (Operand.tmp 10), none⟩,
                                  ⟨some 34, Op.binOp BinOp.lss 2 (Operand.tmp 33) (Operand.const (Value.int IntKind.i64 0)) 2, none⟩,
                                  ⟨some 35, Op.move (Operand.tmp 34), none⟩,
                                  ⟨some 36, Op.move (Operand.tmp 10), some (35, false)⟩,
                                  ⟨some 37, Op.fieldAddr 27 (Operand.tmp 2) 0, some (35, false)⟩,
                                  ⟨some 38, Op.load 22 (Operand.tmp 37), some (35, false)⟩,
                                  ⟨some 39, Op.call { callee := Callee.builtin Builtin.len, args := #[Operand.tmp 38], argTypes := #[22] }, some (35, false)⟩,
                                  ⟨some 40, Op.binOp BinOp.geq 2 (Operand.tmp 36) (Operand.tmp 39) 2, some (35, false)⟩,
                                  ⟨some 41, Op.pick (Operand.tmp 35) (Operand.const (Value.bool true)) (Operand.tmp 40), none⟩])
                                (.cond (Operand.tmp 41)
                                  (.seq
                                    (.region [] false ([]) [
                                      ⟨some 4, Op.assign (Operand.const (Value.slice none 0 0)), none⟩,
                                      ⟨some 5, Op.assign (Operand.const (Value.int IntKind.i64 0)), none⟩,
                                      ⟨some 6, Op.assign (Operand.const (Value.bool false)), none⟩])
                                    .ret)
                                  .skip))
                              (.seq
                                (.region [] false ([]) [
                                  ⟨some 42, Op.fieldAddr 27 (Operand.tmp 2) 0, none⟩,
                                  ⟨some 43, Op.load 22 (Operand.tmp 42), none⟩,
                                  ⟨some 44, Op.move (Operand.tmp 10), none⟩,
                                  ⟨some 45, Op.indexAddr 22 (Operand.tmp 43) (Operand.tmp 44), none⟩,
                                  ⟨some 46, Op.load 2 (Operand.tmp 45), none⟩,
                                  ⟨some 11, Op.assign (Operand.tmp 46), none⟩])
                                (.seq
                                  (.region [49, 50] false ([]) [
                                    ⟨some 47, Op.move (Operand.tmp 7), none⟩,
                                    ⟨some 48, Op.move (Operand.tmp 11), none⟩,
                                    ⟨some 49, Op.buildSlice 22 1 #[(0, Operand.tmp 48)], none⟩,
                                    ⟨some 50, Op.call { callee := Callee.builtin Builtin.append, args := #[Operand.tmp 47, Operand.tmp 49], argTypes := #[22, 22] }, none⟩,
                                    ⟨some 7, Op.assign (Operand.tmp 50), none⟩])
                                  (.seq
                                    (.seq
                                      (.region [] false ([]) [
                                        ⟨some 51, Op.move (Operand.tmp 9), none⟩,
                                        ⟨some 52, Op.binOp BinOp.eql 3 (Operand.tmp 51) (Operand.const (Value.int IntKind.i64 0)) 3, none⟩])
                                      (.cond (Operand.tmp 52)
                                        (.seq
                                          (.seq
                                            (.region [] false ([]) [
                                              ⟨some 53, Op.fieldAddr 27 (Operand.tmp 2) 5, none⟩,
                                              ⟨some 54, Op.load 22 (Operand.tmp 53), none⟩,
                                              ⟨some 55, Op.move (Operand.tmp 11), none⟩,
                                              ⟨some 56, Op.indexAddr 22 (Operand.tmp 54) (Operand.tmp 55), none⟩,
                                              ⟨some 57, Op.load 2 (Operand.tmp 56), none⟩,
                                              ⟨some 58, Op.move (Operand.tmp 10), none⟩,
                                              ⟨some 59, Op.binOp BinOp.neq 2 (Operand.tmp 57) (Operand.tmp 58) 2, none⟩])
                                            (.cond (Operand.tmp 59)
                                              (.seq
                                                (.region [] false ([]) [
                                                  ⟨some 4, Op.assign (Operand.const (Value.slice none 0 0)), none⟩,
                                                  ⟨some 5, Op.assign (Operand.const (Value.int IntKind.i64 0)), none⟩,
                                                  ⟨some 6, Op.assign (Operand.const (Value.bool false)), none⟩])
                                                .ret)
                                              .skip))
                                          (.seq
                                            (.region [] false ([]) [
                                              ⟨some 60, Op.fieldAddr 27 (Operand.tmp 2) 6, none⟩,
                                              ⟨some 61, Op.load 22 (Operand.tmp 60), none⟩,
                                              ⟨some 62, Op.move (Operand.tmp 11), none⟩,
                                              ⟨some 63, Op.indexAddr 22 (Operand.tmp 61) (Operand.tmp 62), none⟩,
                                              ⟨some 64, Op.load 2 (Operand.tmp 63), none⟩,
                                              ⟨some 8, Op.assign (Operand.tmp 64), none⟩])
                                            (.exit 1)))
                                        .skip))
                                    (.seq
                                      (.region [72] true ([]) [
                                        ⟨some 65, Op.load 27 (Operand.tmp 2), none⟩,
                                        ⟨some 66, Op.move (Operand.tmp 1), none⟩,
                                        ⟨some 67, Op.move (Operand.tmp 9), none⟩,
                                        ⟨some 68, Op.binOp BinOp.sub 3 (Operand.tmp 67) (Operand.const (Value.int IntKind.i64 1)) 3, none⟩,
                                        ⟨some 69, Op.indexAddr 22 (Operand.tmp 66) (Operand.tmp 68), none⟩,
                                        ⟨some 70, Op.load 2 (Operand.tmp 69), none⟩,
                                        ⟨some 71, Op.move (Operand.tmp 11), none⟩,
                                        ⟨some 72, Op.call { callee := Callee.value (Operand.func 55), args := #[Operand.tmp 65, Operand.tmp 70, Operand.tmp 71], argTypes := #[27, 2, 2] }, none⟩,
                                        ⟨some 12, Op.assign (Operand.tmp 72), none⟩])
                                      (.seq
                                        (.seq
                                          (.region [] false ([]) [
                                            ⟨some 73, Op.move (Operand.tmp 12), none⟩,
                                            ⟨some 74, Op.binOp BinOp.lss 2 (Operand.tmp 73) (Operand.const (Value.int IntKind.i64 0)) 2, none⟩,
                                            ⟨some 75, Op.move (Operand.tmp 74), none⟩,
                                            ⟨some 76, Op.fieldAddr 27 (Operand.tmp 2) 3, some (75, false)⟩,
                                            ⟨some 77, Op.load 22 (Operand.tmp 76), some (75, false)⟩,
                                            ⟨some 78, Op.move (Operand.tmp 12), some (75, false)⟩,
                                            ⟨some 79, Op.indexAddr 22 (Operand.tmp 77) (Operand.tmp 78), some (75, false)⟩,
                                            ⟨some 80, Op.load 2 (Operand.tmp 79), some (75, false)⟩,
                                            ⟨some 81, Op.move (Operand.tmp 10), some (75, false)⟩,
                                            ⟨some 82, Op.binOp BinOp.neq 2 (Operand.tmp 80) (Operand.tmp 81) 2, some (75, false)⟩,
                                            ⟨some 83, Op.pick (Operand.tmp 75) (Operand.const (Value.bool true)) (Operand.tmp 82), none⟩])
                                          (.cond (Operand.tmp 83)
                                            (.seq
                                              (.region [] false ([]) [
                                                ⟨some 4, Op.assign (Operand.const (Value.slice none 0 0)), none⟩,
                                                ⟨some 5, Op.assign (Operand.const (Value.int IntKind.i64 0)), none⟩,
                                                ⟨some 6, Op.assign (Operand.const (Value.bool false)), none⟩])
                                              .ret)
                                            .skip))
                                        (.region [] false ([]) [
                                          ⟨some 84, Op.move (Operand.tmp 8), none⟩,
                                          ⟨some 85, Op.fieldAddr 27 (Operand.tmp 2) 4, none⟩,
                                          ⟨some 86, Op.load 22 (Operand.tmp 85), none⟩,
                                          ⟨some 87, Op.move (Operand.tmp 12), none⟩,
                                          ⟨some 88, Op.indexAddr 22 (Operand.tmp 86) (Operand.tmp 87), none⟩,
                                          ⟨some 89, Op.load 2 (Operand.tmp 88), none⟩,
                                          ⟨some 90, Op.binOp BinOp.add 2 (Operand.tmp 84) (Operand.tmp 89) 2, none⟩,
                                          ⟨some 8, Op.assign (Operand.tmp 90), none⟩])))))))))
                        (.region [] false ([]) [
                          ⟨some 91, Op.binOp BinOp.add 3 (Operand.tmp 28) (Operand.const (Value.int IntKind.i64 1)) 3, none⟩,
                          ⟨some 28, Op.move (Operand.tmp 91), none⟩])))))))
            (.seq
              (.region [] false ([]) [
                ⟨some 92, Op.move (Operand.tmp 7), none⟩,
                ⟨some 93, Op.move (Operand.tmp 8), none⟩,
                ⟨some 4, Op.assign (Operand.tmp 92), none⟩,
                ⟨some 5, Op.assign (Operand.tmp 93), none⟩,
                ⟨some 6, Op.assign (Operand.const (Value.bool true)), none⟩])
              .ret))))))
set_option maxHeartbeats 0 in
theorem followed_c (g : Gr) (p : List Int) (h : sumG g ≤ 1048576) (hp : p.length ≤ 1048576) :
    CallsF Try.prog 53 [.agg (encG g), .val (ints p)] (folR g p) [] := by
  unfold sumG at h
  refine callsF_of_wp2 (fn := Try.f53) (k := k53) (fun _ => []) mixed (by kernel_rfl) rfl (by kernel_rfl) (by kernel_rfl) (by kernel_rfl) rfl (by simp [Try.f53]) (by simp [Arg.like]) ?_
  generalize hst : St.enter [.agg (encG g), .val (ints p)] = st0
  have t0 : st0.tm 0 = .agg ((encG g) |>.map .t) := by rw [← hst]; rfl
  have t1 : st0.tm 1 = .t (ints p) := by rw [← hst]; rfl
  clear hst
  unfold k53
  simp [encG] at t0
  by_cases hg : VG g
  · have l1 := hg.l1
    have l2 := hg.l2
    have l3 := hg.l3
    have l5 := hg.l5
    have l6 := hg.l6
    have l7 := hg.l7
    repeat' (first
      | (refine wp2_seq fun K hK => ?_)
      | (refine wp1_seq fun K hK => ?_)
      | (refine M_cons fun K hK => ?_)
      | (refine hK _ ?_; clear hK K)
      | (clear hK K; refine hK _ ?_; clear hK K)
      | (clear hK K; clear hK K; refine hK _ ?_; clear hK K)
      | (clear hK K; clear hK K; clear hK K; refine hK _ ?_; clear hK K)
      | (refine hX _ ?_; clear hX hY X Y)
      | (refine hY _ ?_; clear hX hY X Y)
      | (refine wp2_block ?_)
      | (refine wp1_block ?_)
      | (refine wp2_region ?_)
      | (refine wp1_region ?_)
      | (refine wp2_cond fun X Y hX hY => ?_)
      | (refine wp1_cond fun X Y hX hY => ?_)
      | (refine condK_of (fun c => ?_) (fun c => ?_) <;> (try simp [-List.length_eq_zero_iff] at c))
      | (refine guard1_or (fun c => ?_) (fun c => ?_) <;> (have cc := c) <;> (try simp [-List.length_eq_zero_iff] at cc) <;> (try simp (disch := omega) [t0, t1, hg, encG, c]))
      | (refine callT_fl (vgI g ?_ ?_ ?_ ?_ ?_ ?_ ?_) (by simp [St.args, St.arg, t0, t1, hg, encG] <;> first | rfl | exact ⟨rfl, rfl⟩ | exact ⟨rfl, rfl, rfl⟩) (by first | (simp [RV.flat, RV.flats, T.flat]; done) | (unfold RV.flat; exact flat_intRow _) | (repeat' first | exact flat_intRow _ | exact trivial | constructor | unfold RV.flat | unfold RV.flats)) (by simp [mutsOf]) ?_; omega; omega; omega; omega; omega; omega; omega)
      | (simp (disch := omega) [t0, t1, hg, encG]))
    all_goals try (simp [t0, t1, hg, encG, Back]; done)
    · have hn := folR_no (g := g) (p := p) fun _ k => by have := k.pos; omega
      simp [Back, hn]
    · have hn := folR_no (g := g) (p := p) fun _ k => by have := k.le; omega
      simp [Back, hn]
    have p1 : 0 < p.length := by omega
    have p2 : p.length ≤ 10000 := by omega
    have hJ : ∀ s, FW g p p.length s → (∀ i : Nat, i < p.length → POK g p i) → K s := by
      intro s hs hq
      have hy := folR_yes hg (⟨p1, p2, hq⟩ : IsPath g p)
      unfold FW at hs
      rw [if_neg (by omega)] at hs
      obtain ⟨s7, o7, s8⟩ := hs
      repeat' (first
        | (refine wp2_seq fun K hK => ?_)
        | (refine wp1_seq fun K hK => ?_)
        | (refine M_cons fun K hK => ?_)
        | (refine hK _ ?_; clear hK K)
        | (clear hK K; refine hK _ ?_; clear hK K)
        | (clear hK K; clear hK K; refine hK _ ?_; clear hK K)
        | (clear hK K; clear hK K; clear hK K; refine hK _ ?_; clear hK K)
        | (refine hX _ ?_; clear hX hY X Y)
        | (refine hY _ ?_; clear hX hY X Y)
        | (refine wp2_block ?_)
        | (refine wp1_block ?_)
        | (refine wp2_region ?_)
        | (refine wp1_region ?_)
        | (refine wp2_cond fun X Y hX hY => ?_)
        | (refine wp1_cond fun X Y hX hY => ?_)
        | (refine condK_of (fun c => ?_) (fun c => ?_) <;> (try simp [-List.length_eq_zero_iff] at c))
        | (refine guard1_or (fun c => ?_) (fun c => ?_) <;> (have cc := c) <;> (try simp [-List.length_eq_zero_iff] at cc) <;> (try simp (disch := omega) [s7, o7, s8, hy, c]))
        | (simp (disch := omega) [s7, o7, s8, hy]))
      all_goals try (simp [s7, o7, s8, hy, Back]; done)
    clear hK
    refine wp2_loop (fun n s => ∃ k : Nat, GB g s ∧ s.tm 1 = .t (ints p) ∧ s.tm 26 = .t (ints p) ∧ s.tm 27 = .t (.v (.int .i64 p.length)) ∧ s.tm 28 = .t (.v (.int .i64 k)) ∧ FW g p k s ∧ k ≤ p.length ∧ n = p.length - k ∧ ∀ i < k, POK g p i) p.length ?_ ?_
    · exact ⟨0, by simp [GB, FW, t1]⟩
    · rintro n s ⟨k, ⟨s2, o⟩, s1, s26, s27, s28, hw, hk, rfl, hq⟩ K' hK'
      have d1 : 0 ≤ rd p k → rd p k < g.edgeOf.length → 0 ≤ rd g.edgeOf (rd p k) ∧ rd g.edgeOf (rd p k) < g.start.length := fun a b => hg.edgeI a b
      by_cases hk0 : k = 0
      · subst hk0
        unfold FW at hw
        rw [if_pos rfl] at hw
        have d2 : 0 ≤ rd p 0 → rd p 0 < g.edgeOf.length → 0 ≤ rd g.edgeOf (rd p 0) ∧ rd g.edgeOf (rd p 0) < g.start.length := fun a b => hg.edgeI a b
        simp only [Int.natCast_zero] at *
        repeat' (first
          | (refine wp2_seq fun K hK => ?_)
          | (refine wp1_seq fun K hK => ?_)
          | (refine M_cons fun K hK => ?_)
          | (refine hK _ ?_; clear hK K)
          | (clear hK K; refine hK _ ?_; clear hK K)
          | (clear hK K; clear hK K; refine hK _ ?_; clear hK K)
          | (clear hK K; clear hK K; clear hK K; refine hK _ ?_; clear hK K)
          | (refine hX _ ?_; clear hX hY X Y)
          | (refine hY _ ?_; clear hX hY X Y)
          | (refine wp2_block ?_)
          | (refine wp1_block ?_)
          | (refine wp2_rename (mk := [49, 50]) 50 60050 (by decide) ?_)
          | (refine wp2_region ?_)
          | (refine wp1_region ?_)
          | (refine wp2_cond fun X Y hX hY => ?_)
          | (refine wp1_cond fun X Y hX hY => ?_)
          | (refine condK_of (fun c => ?_) (fun c => ?_) <;> (try simp [-List.length_eq_zero_iff] at c))
          | (refine guard1_or (fun c => ?_) (fun c => ?_) <;> (have cc := c) <;> (try simp [-List.length_eq_zero_iff] at cc) <;> (try simp (disch := omega) [s2, o, s1, s26, s27, s28, hw, c]))
          | (simp (disch := omega) [s2, o, s1, s26, s27, s28, hw]))
        all_goals try (simp [s2, o, s1, s26, s27, s28, hw, Back]; done)
        all_goals first
          | omega
          | (have hn := folR_no (g := g) (p := p) fun _ k => (by have hv := k.ok 0 p1; simp [POK] at hv; omega)
             simp [Back, hn]; done)
          | skip
        refine hK' (p.length - 1) _ (by omega) ⟨1, ?_⟩
        simp [GB, FW, s2, o, s1, s26, s27, edgesTo, costTo]
        exact ⟨rfl, by omega, by simp [POK]; omega⟩
      · have hk1 : 0 < k := by omega
        unfold FW at hw
        rw [if_neg hk0] at hw
        obtain ⟨s7, o7, s8⟩ := hw
        have q1 := hq (k - 1) (by omega)
        unfold POK at q1
        rw [show ((k - 1 : Nat) : Int) = (k : Int) - 1 by omega] at q1
        have e1 := arcE_lt (e := rd g.edgeOf (rd p k)) hg q1.1 q1.2.1
        have e2 : 0 ≤ arcE g (rd p ((k : Int) - 1)) (rd g.edgeOf (rd p k)) → 0 ≤ rd g.cost (arcE g (rd p ((k : Int) - 1)) (rd g.edgeOf (rd p k))) ∧ rd g.cost (arcE g (rd p ((k : Int) - 1)) (rd g.edgeOf (rd p k))) ≤ 3145728 := fun hh => (hg.toI hh e1.2).2.2
        have e3 := cost_le' hg hq (k - 1) (by omega)
        have e4 : 0 ≤ arcW g (rd p ((k : Int) - 1)) (rd p k) → arcE g (rd p ((k : Int) - 1)) (rd g.edgeOf (rd p k)) = arcW g (rd p ((k : Int) - 1)) (rd p k) := fun hh => arc_eq hg q1.1 q1.2.1 hh
        have e5 : 0 ≤ arcE g (rd p ((k : Int) - 1)) (rd g.edgeOf (rd p k)) → rd g.to (arcE g (rd p ((k : Int) - 1)) (rd g.edgeOf (rd p k))) = rd p k → 0 ≤ arcW g (rd p ((k : Int) - 1)) (rd p k) := fun a b => arc_back hg q1.1 q1.2.1 a b
        have e6 : 0 ≤ arcW g (rd p ((k : Int) - 1)) (rd p k) → rd g.to (arcW g (rd p ((k : Int) - 1)) (rd p k)) = rd p k := fun hh => (arcW_found hg q1.1 q1.2.1 hh).2.2
        have e7 : arcE g (rd p ((k : Int) - 1)) (rd g.edgeOf (rd p k)) = arcW g (rd p ((k : Int) - 1)) (rd p k) → rd g.to (arcE g (rd p ((k : Int) - 1)) (rd g.edgeOf (rd p k))) = rd g.to (arcW g (rd p ((k : Int) - 1)) (rd p k)) := fun hh => by rw [hh]
        have e8 : (k : Int) - 1 = ((k - 1 : Nat) : Int) := by omega
        have e9 : (edgesTo g p k).length = k := edgesTo_length g p k
        repeat' (first
          | (refine wp2_seq fun K hK => ?_)
          | (refine wp1_seq fun K hK => ?_)
          | (refine M_cons fun K hK => ?_)
          | (refine hK _ ?_; clear hK K)
          | (clear hK K; refine hK _ ?_; clear hK K)
          | (clear hK K; clear hK K; refine hK _ ?_; clear hK K)
          | (clear hK K; clear hK K; clear hK K; refine hK _ ?_; clear hK K)
          | (refine hX _ ?_; clear hX hY X Y)
          | (refine hY _ ?_; clear hX hY X Y)
          | (refine wp2_block ?_)
          | (refine wp1_block ?_)
          | (refine wp2_rename (mk := [49, 50]) 50 60050 (by decide) ?_)
          | (refine wp2_region ?_)
          | (refine wp1_region ?_)
          | (refine wp2_cond fun X Y hX hY => ?_)
          | (refine wp1_cond fun X Y hX hY => ?_)
          | (refine condK_of (fun c => ?_) (fun c => ?_) <;> (try simp [-List.length_eq_zero_iff] at c))
          | (refine guard1_or (fun c => ?_) (fun c => ?_) <;> (have cc := c) <;> (try simp [-List.length_eq_zero_iff] at cc) <;> (try simp (disch := omega) [s2, o, s1, s26, s27, s28, s7, o7, s8, hk0, encG, c]))
          | (refine callT_fl (arcE_c g _ _ hg ?_ ?_) (by simp [St.args, St.arg, s2, o, s1, s26, s27, s28, s7, o7, s8, hk0, encG] <;> first | rfl | exact ⟨rfl, rfl⟩ | exact ⟨rfl, rfl, rfl⟩) (by first | (simp [RV.flat, RV.flats, T.flat]; done) | (unfold RV.flat; exact flat_intRow _) | (repeat' first | exact flat_intRow _ | exact trivial | constructor | unfold RV.flat | unfold RV.flats)) (by simp [mutsOf]) ?_; omega; omega)
          | (simp (disch := omega) [s2, o, s1, s26, s27, s28, s7, o7, s8, hk0, encG]))
        all_goals try (simp [s2, o, s1, s26, s27, s28, s7, o7, s8, hk0, encG, Back]; done)
        all_goals first
          | omega
          | (have hn := folR_no (g := g) (p := p) fun _ j => (by have hv := j.ok k (by omega); unfold POK at hv; omega)
             simp [Back, hn]; done)
          | skip
        · have a0 := e5 cc c
          have a1 := e4 a0
          have a2 : costTo g p k = costTo g p (k - 1) + rd g.cost (arcW g (rd p ((k : Int) - 1)) (rd p k)) := by
            obtain ⟨j, rfl⟩ : ∃ j, k = j + 1 := ⟨k - 1, by omega⟩
            simp only [costTo, Nat.add_sub_cancel]
            push_cast
            rw [show (j : Int) + 1 - 1 = j by omega]
          refine hK' (p.length - (k + 1)) _ (by omega) ⟨k + 1, ?_⟩
          simp [GB, FW, s2, o, s1, s26, s27, edgesTo_succ, a1, a2]
          refine ⟨by omega, below_succ hq ?_⟩
          unfold POK
          omega
        · have hkl : k = p.length := by omega
          refine hJ _ ?_ fun i hi => hq i (by omega)
          rw [← hkl]
          simp [FW, hk0, s7, o7, s8]
  · have hn := folR_no (g := g) (p := p) fun k => absurd k hg
    repeat' (first
      | (refine wp2_seq fun K hK => ?_)
      | (refine wp1_seq fun K hK => ?_)
      | (refine M_cons fun K hK => ?_)
      | (refine hK _ ?_; clear hK K)
      | (clear hK K; refine hK _ ?_; clear hK K)
      | (clear hK K; clear hK K; refine hK _ ?_; clear hK K)
      | (clear hK K; clear hK K; clear hK K; refine hK _ ?_; clear hK K)
      | (refine hX _ ?_; clear hX hY X Y)
      | (refine hY _ ?_; clear hX hY X Y)
      | (refine wp2_block ?_)
      | (refine wp1_block ?_)
      | (refine wp2_region ?_)
      | (refine wp1_region ?_)
      | (refine wp2_cond fun X Y hX hY => ?_)
      | (refine wp1_cond fun X Y hX hY => ?_)
      | (refine condK_of (fun c => ?_) (fun c => ?_) <;> (try simp [-List.length_eq_zero_iff] at c))
      | (refine guard1_or (fun c => ?_) (fun c => ?_) <;> (have cc := c) <;> (try simp [-List.length_eq_zero_iff] at cc) <;> (try simp (disch := omega) [t0, t1, hg, encG, hn, c]))
      | (refine callT_fl (vgI g ?_ ?_ ?_ ?_ ?_ ?_ ?_) (by simp [St.args, St.arg, t0, t1, hg, encG, hn] <;> first | rfl | exact ⟨rfl, rfl⟩ | exact ⟨rfl, rfl, rfl⟩) (by first | (simp [RV.flat, RV.flats, T.flat]; done) | (unfold RV.flat; exact flat_intRow _) | (repeat' first | exact flat_intRow _ | exact trivial | constructor | unfold RV.flat | unfold RV.flats)) (by simp [mutsOf]) ?_; omega; omega; omega; omega; omega; omega; omega)
      | (simp (disch := omega) [t0, t1, hg, encG, hn]))
    all_goals try (simp [t0, t1, hg, encG, hn, Back]; done)
end Cal

set_option linter.unusedSimpArgs false
set_option linter.unusedVariables false
namespace Cal
open Go Go.Proofs
set_option maxRecDepth 100000
theorem followed_y {g : Gr} {p : List Int} (hg : VG g) (hq : IsPath g p) (h : sumG g ≤ 1048576) (hp : p.length ≤ 1048576) :
    CallsF Try.prog 53 [.agg (encG g), .val (ints p)] (.tup [.own 1 (intRow (edgesTo g p p.length)), .t (.v (.int .i64 (costTo g p (p.length - 1)))), .t (.v (.bool true))]) [] := by
  rw [← folR_yes hg hq]
  exact followed_c g p h hp
theorem followed_n {g : Gr} {p : List Int} (hq : VG g → ¬ IsPath g p) (h : sumG g ≤ 1048576) (hp : p.length ≤ 1048576) :
    CallsF Try.prog 53 [.agg (encG g), .val (ints p)] (.tup [.t (.v (.slice none 0 0)), .t (.v (.int .i64 0)), .t (.v (.bool false))]) [] := by
  rw [← folR_no hq]
  exact followed_c g p h hp
/-- The code of impl.PathCost. -/
def k23 : Code1 :=
  (.seq
    (.region [2] false ([]) [
      ⟨some 2, Op.box 27 (Operand.tmp 0), none⟩,
      ⟨some 4, Op.assign (Operand.const (Value.int IntKind.i64 0)), none⟩])
    (.seq
      (.region [11] false ([]) [
        ⟨some 9, Op.load 27 (Operand.tmp 2), none⟩,
        ⟨some 10, Op.move (Operand.tmp 1), none⟩,
        ⟨some 11, Op.call { callee := Callee.value (Operand.func 53), args := #[Operand.tmp 9, Operand.tmp 10], argTypes := #[27, 22] }, none⟩,
        ⟨some 8, Op.move (Operand.tmp 11), none⟩,
        ⟨some 12, Op.extract (Operand.tmp 8) 0, none⟩,
        ⟨some 13, Op.extract (Operand.tmp 8) 1, none⟩,
        ⟨some 14, Op.extract (Operand.tmp 8) 2, none⟩,
        ⟨some 5, Op.assign (Operand.tmp 12), none⟩,
        ⟨some 6, Op.assign (Operand.tmp 13), none⟩,
        ⟨some 7, Op.assign (Operand.tmp 14), none⟩])
      (.seq
        (.seq
          (.region [] false ([]) [
            ⟨some 15, Op.move (Operand.tmp 7), none⟩,
            ⟨some 16, Op.unOp UnOp.not 4 (Operand.tmp 15), none⟩])
          (.cond (Operand.tmp 16)
            (.seq
              (.region [] false ([]) [
                ⟨some 4, Op.assign (Operand.const (Value.int IntKind.i64 (-1))), none⟩])
              .ret)
            .skip))
        (.seq
          (.region [] false ([]) [
            ⟨some 17, Op.move (Operand.tmp 6), none⟩,
            ⟨some 4, Op.assign (Operand.tmp 17), none⟩])
          .ret))))
set_option maxHeartbeats 0 in
theorem pathCostI (g : Gr) (p : List Int) (h : sumG g ≤ 1048576) (hp : p.length ≤ 1048576) : CallsF Try.prog 23 [.agg (encG g), .val (ints p)] (.t (.v (.int .i64 (pathCost g p)))) [] := by
  refine callsF_of_wp1 (fn := Try.f23) (k := k23) (fun _ => []) mixed (by kernel_rfl) rfl (by kernel_rfl) (by kernel_rfl) (by kernel_rfl) rfl (by simp [Try.f23]) (by simp [Arg.like]) ?_
  generalize hst : St.enter [.agg (encG g), .val (ints p)] = st0
  have t0 : st0.tm 0 = .agg ((encG g) |>.map .t) := by rw [← hst]; rfl
  have t1 : st0.tm 1 = .t (ints p) := by rw [← hst]; rfl
  clear hst
  unfold k23
  simp [encG] at t0
  by_cases hq : VG g ∧ IsPath g p
  · have hc : pathCost g p = costTo g p (p.length - 1) := by unfold pathCost; rw [if_pos hq]
    repeat' (first
      | (refine wp2_seq fun K hK => ?_)
      | (refine wp1_seq fun K hK => ?_)
      | (refine M_cons fun K hK => ?_)
      | (refine hK _ ?_; clear hK K)
      | (clear hK K; refine hK _ ?_; clear hK K)
      | (clear hK K; clear hK K; refine hK _ ?_; clear hK K)
      | (clear hK K; clear hK K; clear hK K; refine hK _ ?_; clear hK K)
      | (refine hX _ ?_; clear hX hY X Y)
      | (refine hY _ ?_; clear hX hY X Y)
      | (refine wp2_block ?_)
      | (refine wp1_block ?_)
      | (refine wp2_region ?_)
      | (refine wp1_region ?_)
      | (refine wp2_cond fun X Y hX hY => ?_)
      | (refine wp1_cond fun X Y hX hY => ?_)
      | (refine condK_of (fun c => ?_) (fun c => ?_) <;> (try simp [-List.length_eq_zero_iff] at c))
      | (refine guard1_or (fun c => ?_) (fun c => ?_) <;> (have cc := c) <;> (try simp [-List.length_eq_zero_iff] at cc) <;> (try simp (disch := omega) [t0, t1, encG, hc, c]))
      | (refine callT_fl (followed_y hq.1 hq.2 h hp) (by simp [St.args, St.arg, t0, t1, encG, hc] <;> first | rfl | exact ⟨rfl, rfl⟩ | exact ⟨rfl, rfl, rfl⟩) (by first | (simp [RV.flat, RV.flats, T.flat]; done) | (unfold RV.flat; exact flat_intRow _) | (repeat' first | exact flat_intRow _ | exact trivial | constructor | unfold RV.flat | unfold RV.flats)) (by simp [mutsOf]) ?_)
      | (simp (disch := omega) [t0, t1, encG, hc]))
    all_goals try (simp [t0, t1, encG, hc, Back]; done)
  · have hc : pathCost g p = -1 := by unfold pathCost; rw [if_neg hq]
    repeat' (first
      | (refine wp2_seq fun K hK => ?_)
      | (refine wp1_seq fun K hK => ?_)
      | (refine M_cons fun K hK => ?_)
      | (refine hK _ ?_; clear hK K)
      | (clear hK K; refine hK _ ?_; clear hK K)
      | (clear hK K; clear hK K; refine hK _ ?_; clear hK K)
      | (clear hK K; clear hK K; clear hK K; refine hK _ ?_; clear hK K)
      | (refine hX _ ?_; clear hX hY X Y)
      | (refine hY _ ?_; clear hX hY X Y)
      | (refine wp2_block ?_)
      | (refine wp1_block ?_)
      | (refine wp2_region ?_)
      | (refine wp1_region ?_)
      | (refine wp2_cond fun X Y hX hY => ?_)
      | (refine wp1_cond fun X Y hX hY => ?_)
      | (refine condK_of (fun c => ?_) (fun c => ?_) <;> (try simp [-List.length_eq_zero_iff] at c))
      | (refine guard1_or (fun c => ?_) (fun c => ?_) <;> (have cc := c) <;> (try simp [-List.length_eq_zero_iff] at cc) <;> (try simp (disch := omega) [t0, t1, encG, hc, c]))
      | (refine callT_fl (followed_n (fun a b => hq ⟨a, b⟩) h hp) (by simp [St.args, St.arg, t0, t1, encG, hc] <;> first | rfl | exact ⟨rfl, rfl⟩ | exact ⟨rfl, rfl, rfl⟩) (by first | (simp [RV.flat, RV.flats, T.flat]; done) | (unfold RV.flat; exact flat_intRow _) | (repeat' first | exact flat_intRow _ | exact trivial | constructor | unfold RV.flat | unfold RV.flats)) (by simp [mutsOf]) ?_)
      | (simp (disch := omega) [t0, t1, encG, hc]))
    all_goals try (simp [t0, t1, encG, hc, Back]; done)
/-- The code of laws.FnExactPathCost. -/
def k5 : Code1 :=
  (.seq
    (.region [2] false ([]) [
      ⟨some 2, Op.box 24 (Operand.tmp 0), none⟩,
      ⟨some 4, Op.assign (Operand.const (Value.bool false)), none⟩])
    (.seq
      (.seq
        (.region [] false ([]) [
          ⟨some 10, Op.move (Operand.tmp 1), none⟩,
          ⟨some 11, Op.call { callee := Callee.builtin Builtin.len, args := #[Operand.tmp 10], argTypes := #[22] }, none⟩,
          ⟨some 12, Op.binOp BinOp.gtr 3 (Operand.tmp 11) (Operand.const (Value.int IntKind.i64 1048576)) 3, none⟩])
        (.cond (Operand.tmp 12)
          (.seq
            (.region [] false ([]) [
              ⟨some 4, Op.assign (Operand.const (Value.bool true)), none⟩])
            .ret)
          .skip))
      (.seq
        (.region [] false ([]) [
          ⟨some 5, Op.assign (Operand.const (Value.int IntKind.i64 1048576)), none⟩])
        (.seq
          (.region [15] false ([]) [
            ⟨some 13, Op.load 24 (Operand.tmp 2), none⟩,
            ⟨some 14, Op.move (Operand.tmp 5), none⟩,
            ⟨some 15, Op.call { callee := Callee.value (Operand.func 11), args := #[Operand.tmp 13, Operand.tmp 14], argTypes := #[24, 3] }, none⟩,
            ⟨some 5, Op.assign (Operand.tmp 15), none⟩])
          (.seq
            (.seq
              (.region [] false ([]) [
                ⟨some 16, Op.move (Operand.tmp 5), none⟩,
                ⟨some 17, Op.binOp BinOp.lss 3 (Operand.tmp 16) (Operand.const (Value.int IntKind.i64 0)) 3, none⟩])
              (.cond (Operand.tmp 17)
                (.seq
                  (.region [] false ([]) [
                    ⟨some 4, Op.assign (Operand.const (Value.bool true)), none⟩])
                  .ret)
                .skip))
            (.seq
              (.region [19, 21, 22] false ([]) [
                ⟨some 18, Op.load 24 (Operand.tmp 2), none⟩,
                ⟨some 19, Op.call { callee := Callee.value (Operand.func 13), args := #[Operand.tmp 18], argTypes := #[24] }, none⟩,
                ⟨some 20, Op.move (Operand.tmp 1), none⟩,
                ⟨some 21, Op.call { callee := Callee.value (Operand.func 22), args := #[Operand.tmp 20], argTypes := #[22] }, none⟩,
                ⟨some 22, Op.call { callee := Callee.value (Operand.func 21), args := #[Operand.tmp 19, Operand.tmp 21], argTypes := #[27, 22] }, none⟩,
                ⟨some 6, Op.assign (Operand.tmp 22), none⟩])
              (.seq
                (.region [24, 7] false ([]) [
                  ⟨some 23, Op.load 24 (Operand.tmp 2), none⟩,
                  ⟨some 24, Op.call { callee := Callee.value (Operand.func 13), args := #[Operand.tmp 23], argTypes := #[24] }, none⟩,
                  ⟨some 7, Op.alloc 27, none⟩,
                  ⟨none, Op.store 27 (Operand.tmp 7) (Operand.tmp 24), none⟩])
                (.seq
                  (.region [26] false ([]) [
                    ⟨some 25, Op.move (Operand.tmp 1), none⟩,
                    ⟨some 26, Op.call { callee := Callee.value (Operand.func 22), args := #[Operand.tmp 25], argTypes := #[22] }, none⟩,
                    ⟨some 8, Op.assign (Operand.tmp 26), none⟩])
                  (.seq
                    (.region [29] false ([]) [
                      ⟨some 27, Op.load 27 (Operand.tmp 7), none⟩,
                      ⟨some 28, Op.move (Operand.tmp 8), none⟩,
                      ⟨some 29, Op.call { callee := Callee.value (Operand.func 23), args := #[Operand.tmp 27, Operand.tmp 28], argTypes := #[27, 22] }, none⟩,
                      ⟨some 9, Op.assign (Operand.tmp 29), none⟩])
                    (.seq
                      (.seq
                        (.region [] false ([]) [
                          ⟨some 30, Op.move (Operand.tmp 9), none⟩,
                          ⟨some 31, Op.move (Operand.tmp 6), none⟩,
                          ⟨some 32, Op.binOp BinOp.neq 2 (Operand.tmp 30) (Operand.tmp 31) 2, none⟩])
                        (.cond (Operand.tmp 32)
                          (.seq
                            (.region [] false ([]) [
                              ⟨some 4, Op.assign (Operand.const (Value.bool false)), none⟩])
                            .ret)
                          .skip))
                      (.seq
                        (.seq
                          (.region [35, 36] true ([]) [
                            ⟨some 33, Op.load 27 (Operand.tmp 7), none⟩,
                            ⟨some 34, Op.load 24 (Operand.tmp 2), none⟩,
                            ⟨some 35, Op.call { callee := Callee.value (Operand.func 13), args := #[Operand.tmp 34], argTypes := #[24] }, none⟩,
                            ⟨some 36, Op.call { callee := Callee.value (Operand.func 15), args := #[Operand.tmp 33, Operand.tmp 35], argTypes := #[27, 27] }, none⟩,
                            ⟨some 37, Op.unOp UnOp.not 4 (Operand.tmp 36), none⟩])
                          (.cond (Operand.tmp 37)
                            (.seq
                              (.region [] false ([]) [
                                ⟨some 4, Op.assign (Operand.const (Value.bool false)), none⟩])
                              .ret)
                            .skip))
                        (.seq
                          (.seq
                            (.region [40, 41] false ([]) [
                              ⟨some 38, Op.move (Operand.tmp 8), none⟩,
                              ⟨some 39, Op.move (Operand.tmp 1), none⟩,
                              ⟨some 40, Op.call { callee := Callee.value (Operand.func 22), args := #[Operand.tmp 39], argTypes := #[22] }, none⟩,
                              ⟨some 41, Op.call { callee := Callee.value (Operand.func 24), args := #[Operand.tmp 38, Operand.tmp 40], argTypes := #[22, 22] }, none⟩,
                              ⟨some 42, Op.unOp UnOp.not 4 (Operand.tmp 41), none⟩])
                            (.cond (Operand.tmp 42)
                              (.seq
                                (.region [] false ([]) [
                                  ⟨some 4, Op.assign (Operand.const (Value.bool false)), none⟩])
                                .ret)
                              .skip))
                          (.seq
                            (.region [] false ([]) [
                              ⟨some 4, Op.assign (Operand.const (Value.bool true)), none⟩])
                            .ret)))))))))))))
set_option maxHeartbeats 0 in
theorem lawPC (g : Gr) (p : List Int) (hg : smallG g) (_ : ∀ n ∈ p, (Lit.int .i64 n).wf = true) : CallsF Try.prog 5 [.agg (encG g), .val (ints p)] (.t (.v (.bool true))) [] := by
  refine callsF_of_wp1 (fn := Try.f5) (k := k5) (fun _ => []) mixed (by kernel_rfl) rfl (by kernel_rfl) (by kernel_rfl) (by kernel_rfl) rfl (by simp [Try.f5]) (by simp [Arg.like]) ?_
  generalize hst : St.enter [.agg (encG g), .val (ints p)] = st0
  have t0 : st0.tm 0 = .agg ((encG g) |>.map .t) := by rw [← hst]; rfl
  have t1 : st0.tm 1 = .t (ints p) := by rw [← hst]; rfl
  clear hst
  unfold k5
  simp [encG] at t0
  by_cases hp : 1048576 < p.length
  · repeat' (first
      | (refine wp2_seq fun K hK => ?_)
      | (refine wp1_seq fun K hK => ?_)
      | (refine M_cons fun K hK => ?_)
      | (refine hK _ ?_; clear hK K)
      | (clear hK K; refine hK _ ?_; clear hK K)
      | (clear hK K; clear hK K; refine hK _ ?_; clear hK K)
      | (clear hK K; clear hK K; clear hK K; refine hK _ ?_; clear hK K)
      | (refine hX _ ?_; clear hX hY X Y)
      | (refine hY _ ?_; clear hX hY X Y)
      | (refine wp2_block ?_)
      | (refine wp1_block ?_)
      | (refine wp2_region ?_)
      | (refine wp1_region ?_)
      | (refine wp2_cond fun X Y hX hY => ?_)
      | (refine wp1_cond fun X Y hX hY => ?_)
      | (refine condK_of (fun c => ?_) (fun c => ?_) <;> (try simp [-List.length_eq_zero_iff] at c))
      | (refine guard1_or (fun c => ?_) (fun c => ?_) <;> (have cc := c) <;> (try simp [-List.length_eq_zero_iff] at cc) <;> (try simp (disch := omega) [t0, t1, encG, c]))
      | (simp (disch := omega) [t0, t1, encG]))
    all_goals try (simp [t0, t1, encG, Back]; done)
    omega
  · by_cases hs : 1048576 < sumG g
    · repeat' (first
        | (refine wp2_seq fun K hK => ?_)
        | (refine wp1_seq fun K hK => ?_)
        | (refine M_cons fun K hK => ?_)
        | (refine hK _ ?_; clear hK K)
        | (clear hK K; refine hK _ ?_; clear hK K)
        | (clear hK K; clear hK K; refine hK _ ?_; clear hK K)
        | (clear hK K; clear hK K; clear hK K; refine hK _ ?_; clear hK K)
        | (refine hX _ ?_; clear hX hY X Y)
        | (refine hY _ ?_; clear hX hY X Y)
        | (refine wp2_block ?_)
        | (refine wp1_block ?_)
        | (refine wp2_region ?_)
        | (refine wp1_region ?_)
        | (refine wp2_cond fun X Y hX hY => ?_)
        | (refine wp1_cond fun X Y hX hY => ?_)
        | (refine condK_of (fun c => ?_) (fun c => ?_) <;> (try simp [-List.length_eq_zero_iff] at c))
        | (refine guard1_or (fun c => ?_) (fun c => ?_) <;> (have cc := c) <;> (try simp [-List.length_eq_zero_iff] at cc) <;> (try simp (disch := omega) [t0, t1, hs, encG, c]))
        | (refine callT_fl (szG g _ hg ?_ ?_) (by simp [St.args, St.arg, t0, t1, hs, encG] <;> first | rfl | exact ⟨rfl, rfl⟩ | exact ⟨rfl, rfl, rfl⟩) (by first | (simp [RV.flat, RV.flats, T.flat]; done) | (unfold RV.flat; exact flat_intRow _) | (repeat' first | exact flat_intRow _ | exact trivial | constructor | unfold RV.flat | unfold RV.flats)) (by simp [mutsOf]) ?_; omega; omega)
        | (simp (disch := omega) [t0, t1, hs, encG]))
      all_goals try (simp [t0, t1, hs, encG, Back]; done)
      all_goals omega
    · have hp2 : p.length ≤ 1048576 := by omega
      have hs2 : sumG g ≤ 1048576 := by omega
      have hs3 : 0 ≤ 1048576 - sumG g := by omega
      repeat' (first
        | (refine wp2_seq fun K hK => ?_)
        | (refine wp1_seq fun K hK => ?_)
        | (refine M_cons fun K hK => ?_)
        | (refine hK _ ?_; clear hK K)
        | (clear hK K; refine hK _ ?_; clear hK K)
        | (clear hK K; clear hK K; refine hK _ ?_; clear hK K)
        | (clear hK K; clear hK K; clear hK K; refine hK _ ?_; clear hK K)
        | (refine hX _ ?_; clear hX hY X Y)
        | (refine hY _ ?_; clear hX hY X Y)
        | (refine wp2_block ?_)
        | (refine wp1_block ?_)
        | (refine wp2_region ?_)
        | (refine wp1_region ?_)
        | (refine wp2_cond fun X Y hX hY => ?_)
        | (refine wp1_cond fun X Y hX hY => ?_)
        | (refine condK_of (fun c => ?_) (fun c => ?_) <;> (try simp [-List.length_eq_zero_iff] at c))
        | (refine guard1_or (fun c => ?_) (fun c => ?_) <;> (have cc := c) <;> (try simp [-List.length_eq_zero_iff] at cc) <;> (try simp (disch := omega) [t0, t1, hs, encG, rvG, c]))
        | (refine callT_fl (szG g _ hg ?_ ?_) (by simp [St.args, St.arg, t0, t1, hs, encG, rvG] <;> first | rfl | exact ⟨rfl, rfl⟩ | exact ⟨rfl, rfl, rfl⟩) (by first | (simp [RV.flat, RV.flats, T.flat]; done) | (unfold RV.flat; exact flat_intRow _) | (repeat' first | exact flat_intRow _ | exact trivial | constructor | unfold RV.flat | unfold RV.flats)) (by simp [mutsOf]) ?_; omega; omega)
        | (refine callT_fl (toG g ?_) (by simp [St.args, St.arg, t0, t1, hs, encG, rvG] <;> first | rfl | exact ⟨rfl, rfl⟩ | exact ⟨rfl, rfl, rfl⟩) (by first | (simp [RV.flat, RV.flats, T.flat]; done) | (unfold RV.flat; exact flat_intRow _) | (repeat' first | exact flat_intRow _ | exact trivial | constructor | unfold RV.flat | unfold RV.flats)) (by simp [mutsOf]) ?_; omega)
        | (refine callT_fl (toI p ?_) (by simp [St.args, St.arg, t0, t1, hs, encG, rvG] <;> first | rfl | exact ⟨rfl, rfl⟩ | exact ⟨rfl, rfl, rfl⟩) (by first | (simp [RV.flat, RV.flats, T.flat]; done) | (unfold RV.flat; exact flat_intRow _) | (repeat' first | exact flat_intRow _ | exact trivial | constructor | unfold RV.flat | unfold RV.flats)) (by simp [mutsOf]) ?_; omega)
        | (refine callT_fl (pathCostS g p ?_ ?_) (by simp [St.args, St.arg, t0, t1, hs, encG, rvG] <;> first | rfl | exact ⟨rfl, rfl⟩ | exact ⟨rfl, rfl, rfl⟩) (by first | (simp [RV.flat, RV.flats, T.flat]; done) | (unfold RV.flat; exact flat_intRow _) | (repeat' first | exact flat_intRow _ | exact trivial | constructor | unfold RV.flat | unfold RV.flats)) (by simp [mutsOf]) ?_; omega; omega)
        | (refine callT_fl (pathCostI g p ?_ ?_) (by simp [St.args, St.arg, t0, t1, hs, encG, rvG] <;> first | rfl | exact ⟨rfl, rfl⟩ | exact ⟨rfl, rfl, rfl⟩) (by first | (simp [RV.flat, RV.flats, T.flat]; done) | (unfold RV.flat; exact flat_intRow _) | (repeat' first | exact flat_intRow _ | exact trivial | constructor | unfold RV.flat | unfold RV.flats)) (by simp [mutsOf]) ?_; omega; omega)
        | (refine callT_fl (eqG g ?_) (by simp [St.args, St.arg, t0, t1, hs, encG, rvG] <;> first | rfl | exact ⟨rfl, rfl⟩ | exact ⟨rfl, rfl, rfl⟩) (by first | (simp [RV.flat, RV.flats, T.flat]; done) | (unfold RV.flat; exact flat_intRow _) | (repeat' first | exact flat_intRow _ | exact trivial | constructor | unfold RV.flat | unfold RV.flats)) (by simp [mutsOf]) ?_; omega)
        | (refine callT_fl (eqI p p ?_ ?_) (by simp [St.args, St.arg, t0, t1, hs, encG, rvG] <;> first | rfl | exact ⟨rfl, rfl⟩ | exact ⟨rfl, rfl, rfl⟩) (by first | (simp [RV.flat, RV.flats, T.flat]; done) | (unfold RV.flat; exact flat_intRow _) | (repeat' first | exact flat_intRow _ | exact trivial | constructor | unfold RV.flat | unfold RV.flats)) (by simp [mutsOf]) ?_; omega; omega)
        | (simp (disch := omega) [t0, t1, hs, encG, rvG]))
      all_goals try (simp [t0, t1, hs, encG, rvG, Back]; done)
end Cal

set_option linter.unusedSimpArgs false
set_option linter.unusedVariables false
namespace Cal
open Go Go.Proofs
set_option maxRecDepth 100000
/-- k, k + 1, .. -/
def marked (k : Int) (n : Nat) : List Int := (List.range n).map fun (i : Nat) => k + (i : Int)
@[simp] theorem marked_length (k : Int) (n : Nat) : (marked k n).length = n := by simp [marked]
theorem rd_marked {k : Int} {n i : Nat} (h : i < n) : rd (marked k n) i = k + i := by
  unfold rd marked
  simp [List.getD_eq_getElem?_getD, h]
/-- The code of laws.markInt64S. -/
def k28 : Code1 :=
  (.seq
    (.region [] false ([]) [
      ⟨some 4, Op.assign (Operand.const (Value.int IntKind.i64 0)), none⟩])
    (.seq
      (.seq
        (.region [] false ([]) [
          ⟨some 5, Op.assign (Operand.const (Value.int IntKind.i64 0)), none⟩])
        (.block 0
          (.loop
            (.seq
              (.seq
                (.region [] false ([]) [
                  ⟨some 6, Op.move (Operand.tmp 5), none⟩,
                  ⟨some 7, Op.move (Operand.tmp 0), none⟩,
                  ⟨some 8, Op.call { callee := Callee.builtin Builtin.len, args := #[Operand.tmp 7], argTypes := #[22] }, none⟩,
                  ⟨some 9, Op.binOp BinOp.lss 3 (Operand.tmp 6) (Operand.tmp 8) 3, none⟩])
                (.cond (Operand.tmp 9)
                  .skip
                  (.exit 0)))
              (.seq
                (.block 1
                  (.seq
                    (.region [] false ([]) [
                      ⟨some 12, Op.move (Operand.tmp 0), none⟩,
                      ⟨some 13, Op.move (Operand.tmp 5), none⟩,
                      ⟨some 14, Op.move (Operand.tmp 1), none⟩,
                      ⟨some 15, Op.indexAddr 22 (Operand.tmp 12) (Operand.tmp 13), none⟩,
                      ⟨none, Op.store 2 (Operand.tmp 15) (Operand.tmp 14), none⟩])
                    (.region [] false ([]) [
                      ⟨some 16, Op.move (Operand.tmp 1), none⟩,
                      ⟨some 17, Op.binOp BinOp.add 3 (Operand.tmp 16) (Operand.const (Value.int IntKind.i64 1)) 3, none⟩,
                      ⟨some 1, Op.assign (Operand.tmp 17), none⟩])))
                (.region [] false ([]) [
                  ⟨some 10, Op.move (Operand.tmp 5), none⟩,
                  ⟨some 11, Op.binOp BinOp.add 3 (Operand.tmp 10) (Operand.const (Value.int IntKind.i64 1)) 3, none⟩,
                  ⟨some 5, Op.assign (Operand.tmp 11), none⟩]))))))
      (.seq
        (.region [] false ([]) [
          ⟨some 18, Op.move (Operand.tmp 1), none⟩,
          ⟨some 4, Op.assign (Operand.tmp 18), none⟩])
        .ret)))
theorem markI (l : List Int) (k : Int) (h0 : 0 ≤ k) (h1 : k ≤ 1000000000) (h2 : l.length ≤ 1048576) :
    CallsF Try.prog 28 [.mrow 1 (intRow l), .val (.v (.int .i64 k))] (.t (.v (.int .i64 (k + l.length)))) [some (.mrow 1 (intRow (marked k l.length)))] := by
  refine callsF_of_wp2 (fn := Try.f28) (k := k28) (fun _ => []) mixed (by kernel_rfl) rfl (by kernel_rfl) (by kernel_rfl) (by kernel_rfl) rfl (by simp [Try.f28]) (by simp [Arg.like]) ?_
  generalize hst : St.enter [.mrow 1 (intRow l), .val (.v (.int .i64 k))] = st0
  have t0 : st0.tm 0 = .row (100000, 0) 1 0 ((intRow l)).length := by rw [← hst]; rfl
  have o0 : st0.ob (100000, 0) = some (.row 1 (intRow l)) := by rw [← hst]; rfl
  have t1 : st0.tm 1 = .t (.v (.int .i64 k)) := by rw [← hst]; rfl
  clear hst
  unfold k28
  simp at t0
  repeat' (first
    | (refine wp2_seq fun K hK => ?_)
    | (refine wp1_seq fun K hK => ?_)
    | (refine M_cons fun K hK => ?_)
    | (refine hK _ ?_; clear hK K)
    | (clear hK K; refine hK _ ?_; clear hK K)
    | (clear hK K; clear hK K; refine hK _ ?_; clear hK K)
    | (clear hK K; clear hK K; clear hK K; refine hK _ ?_; clear hK K)
    | (refine hX _ ?_; clear hX hY X Y)
    | (refine hY _ ?_; clear hX hY X Y)
    | (refine wp2_block ?_)
    | (refine wp1_block ?_)
    | (refine wp2_region ?_)
    | (refine wp1_region ?_)
    | (refine wp2_cond fun X Y hX hY => ?_)
    | (refine wp1_cond fun X Y hX hY => ?_)
    | (refine condK_of (fun c => ?_) (fun c => ?_) <;> (try simp [-List.length_eq_zero_iff] at c))
    | (refine guard1_or (fun c => ?_) (fun c => ?_) <;> (have cc := c) <;> (try simp [-List.length_eq_zero_iff] at cc) <;> (try simp (disch := omega) [t0, o0, t1, c]))
    | (simp (disch := omega) [t0, o0, t1]))
  all_goals try (simp [t0, o0, t1, Back]; done)
  have hJ : ∀ s, s.tm 1 = .t (.v (.int .i64 (k + l.length))) → s.ob (100000, 0) = some (.row 1 (intRow (marked k l.length))) → K s := by
    intro s s1 o
    have hb : base = 100000 := rfl
    repeat' (first
      | (refine wp2_seq fun K hK => ?_)
      | (refine wp1_seq fun K hK => ?_)
      | (refine M_cons fun K hK => ?_)
      | (refine hK _ ?_; clear hK K)
      | (clear hK K; refine hK _ ?_; clear hK K)
      | (clear hK K; clear hK K; refine hK _ ?_; clear hK K)
      | (clear hK K; clear hK K; clear hK K; refine hK _ ?_; clear hK K)
      | (refine hX _ ?_; clear hX hY X Y)
      | (refine hY _ ?_; clear hX hY X Y)
      | (refine wp2_block ?_)
      | (refine wp1_block ?_)
      | (refine wp2_region ?_)
      | (refine wp1_region ?_)
      | (refine wp2_cond fun X Y hX hY => ?_)
      | (refine wp1_cond fun X Y hX hY => ?_)
      | (refine condK_of (fun c => ?_) (fun c => ?_) <;> (try simp [-List.length_eq_zero_iff] at c))
      | (refine guard1_or (fun c => ?_) (fun c => ?_) <;> (have cc := c) <;> (try simp [-List.length_eq_zero_iff] at cc) <;> (try simp (disch := omega) [s1, o, hb, c]))
      | (simp (disch := omega) [s1, o, hb]))
    all_goals try (simp [s1, o, hb, Back]; done)
  clear hK
  refine wp2_loop (fun n s => ∃ (j : Nat) (xs : List Int), s.tm 0 = .row (100000, 0) 1 0 l.length ∧ s.ob (100000, 0) = some (.row 1 (intRow xs)) ∧ xs.length = l.length ∧ s.tm 5 = .t (.v (.int .i64 j)) ∧ s.tm 1 = .t (.v (.int .i64 (k + j))) ∧ j ≤ l.length ∧ n = l.length - j ∧ ∀ i < j, rd xs i = k + i) l.length ?_ ?_
  · exact ⟨0, l, by simp [t0, o0, t1]⟩
  · rintro n s ⟨j, xs, s0, o, hx, s5, s1, hj, rfl, hq⟩ K' hK'
    repeat' (first
      | (refine wp2_seq fun K hK => ?_)
      | (refine wp1_seq fun K hK => ?_)
      | (refine M_cons fun K hK => ?_)
      | (refine hK _ ?_; clear hK K)
      | (clear hK K; refine hK _ ?_; clear hK K)
      | (clear hK K; clear hK K; refine hK _ ?_; clear hK K)
      | (clear hK K; clear hK K; clear hK K; refine hK _ ?_; clear hK K)
      | (refine hX _ ?_; clear hX hY X Y)
      | (refine hY _ ?_; clear hX hY X Y)
      | (refine wp2_block ?_)
      | (refine wp1_block ?_)
      | (refine wp2_region ?_)
      | (refine wp1_region ?_)
      | (refine wp2_cond fun X Y hX hY => ?_)
      | (refine wp1_cond fun X Y hX hY => ?_)
      | (refine condK_of (fun c => ?_) (fun c => ?_) <;> (try simp [-List.length_eq_zero_iff] at c))
      | (refine guard1_or (fun c => ?_) (fun c => ?_) <;> (have cc := c) <;> (try simp [-List.length_eq_zero_iff] at cc) <;> (try simp (disch := omega) [s0, o, s5, s1, hx, c]))
      | (simp (disch := omega) [s0, o, s5, s1, hx]))
    all_goals try (simp [s0, o, s5, s1, hx, Back]; done)
    · refine hK' (l.length - (j + 1)) _ (by omega) ⟨j + 1, xs.set j (k + j), ?_⟩
      simp [s0, hx]
      refine ⟨by omega, by omega, below_succ (p := fun i : Nat => rd (xs.set j (k + j)) i = k + i) (fun i hi => ?_) (rd_set_eq (by omega))⟩
      rw [rd_set_ne (by omega)]
      exact hq i hi
    · have hjl : j = l.length := by omega
      refine hJ _ ?_ ?_
      · simp [s1, hjl]
      · simp [o]
        rw [eq_of_rd (a := xs) (b := marked k l.length) (by simp [hx]) fun i hi => by rw [hq i (by omega), rd_marked (by omega)]]
/-- The code of laws.heldInt64S. -/
def k29 : Code1 :=
  (.seq
    (.region [] false ([]) [
      ⟨some 4, Op.assign (Operand.const (Value.int IntKind.i64 0)), none⟩])
    (.seq
      (.seq
        (.region [] false ([]) [
          ⟨some 5, Op.assign (Operand.const (Value.int IntKind.i64 0)), none⟩])
        (.block 0
          (.loop
            (.seq
              (.seq
                (.region [] false ([]) [
                  ⟨some 6, Op.move (Operand.tmp 5), none⟩,
                  ⟨some 7, Op.move (Operand.tmp 0), none⟩,
                  ⟨some 8, Op.call { callee := Callee.builtin Builtin.len, args := #[Operand.tmp 7], argTypes := #[22] }, none⟩,
                  ⟨some 9, Op.binOp BinOp.lss 3 (Operand.tmp 6) (Operand.tmp 8) 3, none⟩])
                (.cond (Operand.tmp 9)
                  .skip
                  (.exit 0)))
              (.seq
                (.block 1
                  (.seq
                    (.seq
                      (.region [] false ([]) [
                        ⟨some 12, Op.move (Operand.tmp 0), none⟩,
                        ⟨some 13, Op.move (Operand.tmp 5), none⟩,
                        ⟨some 14, Op.indexAddr 22 (Operand.tmp 12) (Operand.tmp 13), none⟩,
                        ⟨some 15, Op.load 2 (Operand.tmp 14), none⟩,
                        ⟨some 16, Op.move (Operand.tmp 1), none⟩,
                        ⟨some 17, Op.binOp BinOp.neq 2 (Operand.tmp 15) (Operand.tmp 16) 2, none⟩])
                      (.cond (Operand.tmp 17)
                        (.seq
                          (.region [] false ([]) [
                            ⟨some 4, Op.assign (Operand.const (Value.int IntKind.i64 (-1))), none⟩])
                          .ret)
                        .skip))
                    (.region [] false ([]) [
                      ⟨some 18, Op.move (Operand.tmp 1), none⟩,
                      ⟨some 19, Op.binOp BinOp.add 3 (Operand.tmp 18) (Operand.const (Value.int IntKind.i64 1)) 3, none⟩,
                      ⟨some 1, Op.assign (Operand.tmp 19), none⟩])))
                (.region [] false ([]) [
                  ⟨some 10, Op.move (Operand.tmp 5), none⟩,
                  ⟨some 11, Op.binOp BinOp.add 3 (Operand.tmp 10) (Operand.const (Value.int IntKind.i64 1)) 3, none⟩,
                  ⟨some 5, Op.assign (Operand.tmp 11), none⟩]))))))
      (.seq
        (.region [] false ([]) [
          ⟨some 20, Op.move (Operand.tmp 1), none⟩,
          ⟨some 4, Op.assign (Operand.tmp 20), none⟩])
        .ret)))
theorem heldI (n : Nat) (k : Int) (h0 : 0 ≤ k) (h1 : k ≤ 1000000000) (h2 : n ≤ 1048576) :
    CallsF Try.prog 29 [.val (ints (marked k n)), .val (.v (.int .i64 k))] (.t (.v (.int .i64 (k + n)))) [] := by
  refine callsF_of_wp2 (fn := Try.f29) (k := k29) (fun _ => []) mixed (by kernel_rfl) rfl (by kernel_rfl) (by kernel_rfl) (by kernel_rfl) rfl (by simp [Try.f29]) (by simp [Arg.like]) ?_
  generalize hst : St.enter [.val (ints (marked k n)), .val (.v (.int .i64 k))] = st0
  have t0 : st0.tm 0 = .t (ints (marked k n)) := by rw [← hst]; rfl
  have t1 : st0.tm 1 = .t (.v (.int .i64 k)) := by rw [← hst]; rfl
  clear hst
  unfold k29
  have hl : (marked k n).length = n := marked_length k n
  repeat' (first
    | (refine wp2_seq fun K hK => ?_)
    | (refine wp1_seq fun K hK => ?_)
    | (refine M_cons fun K hK => ?_)
    | (refine hK _ ?_; clear hK K)
    | (clear hK K; refine hK _ ?_; clear hK K)
    | (clear hK K; clear hK K; refine hK _ ?_; clear hK K)
    | (clear hK K; clear hK K; clear hK K; refine hK _ ?_; clear hK K)
    | (refine hX _ ?_; clear hX hY X Y)
    | (refine hY _ ?_; clear hX hY X Y)
    | (refine wp2_block ?_)
    | (refine wp1_block ?_)
    | (refine wp2_region ?_)
    | (refine wp1_region ?_)
    | (refine wp2_cond fun X Y hX hY => ?_)
    | (refine wp1_cond fun X Y hX hY => ?_)
    | (refine condK_of (fun c => ?_) (fun c => ?_) <;> (try simp [-List.length_eq_zero_iff] at c))
    | (refine guard1_or (fun c => ?_) (fun c => ?_) <;> (have cc := c) <;> (try simp [-List.length_eq_zero_iff] at cc) <;> (try simp (disch := omega) [t0, t1, c]))
    | (simp (disch := omega) [t0, t1]))
  all_goals try (simp [t0, t1, Back]; done)
  have hJ : ∀ s, s.tm 1 = .t (.v (.int .i64 (k + n))) → K s := by
    intro s s1
    repeat' (first
      | (refine wp2_seq fun K hK => ?_)
      | (refine wp1_seq fun K hK => ?_)
      | (refine M_cons fun K hK => ?_)
      | (refine hK _ ?_; clear hK K)
      | (clear hK K; refine hK _ ?_; clear hK K)
      | (clear hK K; clear hK K; refine hK _ ?_; clear hK K)
      | (clear hK K; clear hK K; clear hK K; refine hK _ ?_; clear hK K)
      | (refine hX _ ?_; clear hX hY X Y)
      | (refine hY _ ?_; clear hX hY X Y)
      | (refine wp2_block ?_)
      | (refine wp1_block ?_)
      | (refine wp2_region ?_)
      | (refine wp1_region ?_)
      | (refine wp2_cond fun X Y hX hY => ?_)
      | (refine wp1_cond fun X Y hX hY => ?_)
      | (refine condK_of (fun c => ?_) (fun c => ?_) <;> (try simp [-List.length_eq_zero_iff] at c))
      | (refine guard1_or (fun c => ?_) (fun c => ?_) <;> (have cc := c) <;> (try simp [-List.length_eq_zero_iff] at cc) <;> (try simp (disch := omega) [s1, c]))
      | (simp (disch := omega) [s1]))
    all_goals try (simp [s1, Back]; done)
  clear hK
  refine wp2_loop (fun m s => ∃ j : Nat, s.tm 0 = .t (ints (marked k n)) ∧ s.tm 5 = .t (.v (.int .i64 j)) ∧ s.tm 1 = .t (.v (.int .i64 (k + j))) ∧ j ≤ n ∧ m = n - j) n ?_ ?_
  · exact ⟨0, by simp [t0, t1]⟩
  · rintro m s ⟨j, s0, s5, s1, hj, rfl⟩ K' hK'
    have hr : j < n → rd (marked k n) j = k + j := fun h => rd_marked h
    repeat' (first
      | (refine wp2_seq fun K hK => ?_)
      | (refine wp1_seq fun K hK => ?_)
      | (refine M_cons fun K hK => ?_)
      | (refine hK _ ?_; clear hK K)
      | (clear hK K; refine hK _ ?_; clear hK K)
      | (clear hK K; clear hK K; refine hK _ ?_; clear hK K)
      | (clear hK K; clear hK K; clear hK K; refine hK _ ?_; clear hK K)
      | (refine hX _ ?_; clear hX hY X Y)
      | (refine hY _ ?_; clear hX hY X Y)
      | (refine wp2_block ?_)
      | (refine wp1_block ?_)
      | (refine wp2_region ?_)
      | (refine wp1_region ?_)
      | (refine wp2_cond fun X Y hX hY => ?_)
      | (refine wp1_cond fun X Y hX hY => ?_)
      | (refine condK_of (fun c => ?_) (fun c => ?_) <;> (try simp [-List.length_eq_zero_iff] at c))
      | (refine guard1_or (fun c => ?_) (fun c => ?_) <;> (have cc := c) <;> (try simp [-List.length_eq_zero_iff] at cc) <;> (try simp (disch := omega) [s0, s5, s1, c]))
      | (simp (disch := omega) [s0, s5, s1]))
    all_goals try (simp [s0, s5, s1, Back]; done)
    all_goals first
      | omega
      | (refine hK' (n - (j + 1)) _ (by omega) ⟨j + 1, ?_⟩; simp [s0]; omega)
      | (refine hJ _ ?_; have hjn : j = n := by omega
         simp [s1, hjn])
      | skip
/-- The code of laws.markGraph. -/
def k27 : Code1 :=
  (.seq
    (.region [2] false ([]) [
      ⟨some 2, Op.box 27 (Operand.tmp 0), none⟩,
      ⟨some 4, Op.assign (Operand.const (Value.int IntKind.i64 0)), none⟩])
    (.seq
      (.region [8] false ([]) [
        ⟨some 5, Op.fieldAddr 27 (Operand.tmp 2) 0, none⟩,
        ⟨some 6, Op.load 22 (Operand.tmp 5), none⟩,
        ⟨some 7, Op.move (Operand.tmp 1), none⟩,
        ⟨some 8, Op.call { callee := Callee.value (Operand.func 28), args := #[Operand.tmp 6, Operand.tmp 7], argTypes := #[22, 3] }, none⟩,
        ⟨some 1, Op.assign (Operand.tmp 8), none⟩])
      (.seq
        (.region [12] false ([]) [
          ⟨some 9, Op.fieldAddr 27 (Operand.tmp 2) 1, none⟩,
          ⟨some 10, Op.load 22 (Operand.tmp 9), none⟩,
          ⟨some 11, Op.move (Operand.tmp 1), none⟩,
          ⟨some 12, Op.call { callee := Callee.value (Operand.func 28), args := #[Operand.tmp 10, Operand.tmp 11], argTypes := #[22, 3] }, none⟩,
          ⟨some 1, Op.assign (Operand.tmp 12), none⟩])
        (.seq
          (.region [16] false ([]) [
            ⟨some 13, Op.fieldAddr 27 (Operand.tmp 2) 2, none⟩,
            ⟨some 14, Op.load 22 (Operand.tmp 13), none⟩,
            ⟨some 15, Op.move (Operand.tmp 1), none⟩,
            ⟨some 16, Op.call { callee := Callee.value (Operand.func 28), args := #[Operand.tmp 14, Operand.tmp 15], argTypes := #[22, 3] }, none⟩,
            ⟨some 1, Op.assign (Operand.tmp 16), none⟩])
          (.seq
            (.region [20] false ([]) [
              ⟨some 17, Op.fieldAddr 27 (Operand.tmp 2) 3, none⟩,
              ⟨some 18, Op.load 22 (Operand.tmp 17), none⟩,
              ⟨some 19, Op.move (Operand.tmp 1), none⟩,
              ⟨some 20, Op.call { callee := Callee.value (Operand.func 28), args := #[Operand.tmp 18, Operand.tmp 19], argTypes := #[22, 3] }, none⟩,
              ⟨some 1, Op.assign (Operand.tmp 20), none⟩])
            (.seq
              (.region [24] false ([]) [
                ⟨some 21, Op.fieldAddr 27 (Operand.tmp 2) 4, none⟩,
                ⟨some 22, Op.load 22 (Operand.tmp 21), none⟩,
                ⟨some 23, Op.move (Operand.tmp 1), none⟩,
                ⟨some 24, Op.call { callee := Callee.value (Operand.func 28), args := #[Operand.tmp 22, Operand.tmp 23], argTypes := #[22, 3] }, none⟩,
                ⟨some 1, Op.assign (Operand.tmp 24), none⟩])
              (.seq
                (.region [28] false ([]) [
                  ⟨some 25, Op.fieldAddr 27 (Operand.tmp 2) 5, none⟩,
                  ⟨some 26, Op.load 22 (Operand.tmp 25), none⟩,
                  ⟨some 27, Op.move (Operand.tmp 1), none⟩,
                  ⟨some 28, Op.call { callee := Callee.value (Operand.func 28), args := #[Operand.tmp 26, Operand.tmp 27], argTypes := #[22, 3] }, none⟩,
                  ⟨some 1, Op.assign (Operand.tmp 28), none⟩])
                (.seq
                  (.region [32] false ([]) [
                    ⟨some 29, Op.fieldAddr 27 (Operand.tmp 2) 6, none⟩,
                    ⟨some 30, Op.load 22 (Operand.tmp 29), none⟩,
                    ⟨some 31, Op.move (Operand.tmp 1), none⟩,
                    ⟨some 32, Op.call { callee := Callee.value (Operand.func 28), args := #[Operand.tmp 30, Operand.tmp 31], argTypes := #[22, 3] }, none⟩,
                    ⟨some 1, Op.assign (Operand.tmp 32), none⟩])
                  (.seq
                    (.region [] false ([]) [
                      ⟨some 33, Op.move (Operand.tmp 1), none⟩,
                      ⟨some 4, Op.assign (Operand.tmp 33), none⟩])
                    .ret)))))))))
set_option maxHeartbeats 0 in
theorem markG (a b c d e f g : List Int) (k : Int) (h0 : 0 ≤ k) (h1 : k ≤ 100000000) (h : (a.length : Int) + b.length + c.length + d.length + e.length + f.length + g.length ≤ 1048576) :
    CallsFS Try.prog 27 [some 7, none] [.mrow 1 (intRow a), .mrow 1 (intRow b), .mrow 1 (intRow c), .mrow 1 (intRow d), .mrow 1 (intRow e), .mrow 1 (intRow f), .mrow 1 (intRow g), .val (.v (.int .i64 k))] (.t (.v (.int .i64 (k + a.length + b.length + c.length + d.length + e.length + f.length + g.length)))) [none, none, none, none, none, none, none] := by
  refine callsFS_of_wp2 (fn := Try.f27) (k := k27) (fun _ => []) mixed (by kernel_rfl) rfl (by kernel_rfl) (by kernel_rfl) (by kernel_rfl) rfl (by simp [Try.f27]) (by simp [Arg.like]) ?_
  generalize hst : St.enterS [some 7, none] [.mrow 1 (intRow a), .mrow 1 (intRow b), .mrow 1 (intRow c), .mrow 1 (intRow d), .mrow 1 (intRow e), .mrow 1 (intRow f), .mrow 1 (intRow g), .val (.v (.int .i64 k))] = st0
  have t0 : st0.tm 0 = .agg [.row (100000, 0) 1 0 (intRow a).length, .row (100001, 0) 1 0 (intRow b).length, .row (100002, 0) 1 0 (intRow c).length, .row (100003, 0) 1 0 (intRow d).length, .row (100004, 0) 1 0 (intRow e).length, .row (100005, 0) 1 0 (intRow f).length, .row (100006, 0) 1 0 (intRow g).length] := by rw [← hst]; rfl
  have t1 : st0.tm 1 = .t (.v (.int .i64 k)) := by rw [← hst]; rfl
  have o0 : st0.ob (100000, 0) = some (.row 1 (intRow a)) := by rw [← hst]; rfl
  have o1 : st0.ob (100001, 0) = some (.row 1 (intRow b)) := by rw [← hst]; rfl
  have o2 : st0.ob (100002, 0) = some (.row 1 (intRow c)) := by rw [← hst]; rfl
  have o3 : st0.ob (100003, 0) = some (.row 1 (intRow d)) := by rw [← hst]; rfl
  have o4 : st0.ob (100004, 0) = some (.row 1 (intRow e)) := by rw [← hst]; rfl
  have o5 : st0.ob (100005, 0) = some (.row 1 (intRow f)) := by rw [← hst]; rfl
  have o6 : st0.ob (100006, 0) = some (.row 1 (intRow g)) := by rw [← hst]; rfl
  clear hst
  unfold k27
  simp at t0
  repeat' (first
    | (refine wp2_seq fun K hK => ?_)
    | (refine wp1_seq fun K hK => ?_)
    | (refine M_cons fun K hK => ?_)
    | (refine hK _ ?_; clear hK K)
    | (clear hK K; refine hK _ ?_; clear hK K)
    | (clear hK K; clear hK K; refine hK _ ?_; clear hK K)
    | (clear hK K; clear hK K; clear hK K; refine hK _ ?_; clear hK K)
    | (refine hX _ ?_; clear hX hY X Y)
    | (refine hY _ ?_; clear hX hY X Y)
    | (refine wp2_block ?_)
    | (refine wp1_block ?_)
    | (refine wp2_region ?_)
    | (refine wp1_region ?_)
    | (refine wp2_cond fun X Y hX hY => ?_)
    | (refine wp1_cond fun X Y hX hY => ?_)
    | (refine condK_of (fun c => ?_) (fun c => ?_) <;> (try simp [-List.length_eq_zero_iff] at c))
    | (refine guard1_or (fun c => ?_) (fun c => ?_) <;> (have cc := c) <;> (try simp [-List.length_eq_zero_iff] at cc) <;> (try simp (disch := omega) [t0, t1, o0, o1, o2, o3, o4, o5, o6, c]))
    | (refine callT_gen true (markI a _ ?_ ?_ ?_) (fun _ => ⟨(by first | (simp [RV.flat, RV.flats, T.flat]; done) | ((repeat' first | exact flat_intRow _ | exact trivial | constructor | unfold RV.flat | unfold RV.flats); done)), (by (repeat' first | exact flat_intRow _ | exact trivial | constructor | unfold Arg.flats | unfold Arg.flat); done)⟩) (by simp [St.args, St.arg, t0, t1, o0, o1, o2, o3, o4, o5, o6] <;> first | rfl | ((repeat' first | rfl | apply And.intro); done)) (by simp [apartArgs, mutsOf, noRow, valsOf]) (by simp) ?_; omega; omega; omega)
    | (refine callT_gen true (markI b _ ?_ ?_ ?_) (fun _ => ⟨(by first | (simp [RV.flat, RV.flats, T.flat]; done) | ((repeat' first | exact flat_intRow _ | exact trivial | constructor | unfold RV.flat | unfold RV.flats); done)), (by (repeat' first | exact flat_intRow _ | exact trivial | constructor | unfold Arg.flats | unfold Arg.flat); done)⟩) (by simp [St.args, St.arg, t0, t1, o0, o1, o2, o3, o4, o5, o6] <;> first | rfl | ((repeat' first | rfl | apply And.intro); done)) (by simp [apartArgs, mutsOf, noRow, valsOf]) (by simp) ?_; omega; omega; omega)
    | (refine callT_gen true (markI c _ ?_ ?_ ?_) (fun _ => ⟨(by first | (simp [RV.flat, RV.flats, T.flat]; done) | ((repeat' first | exact flat_intRow _ | exact trivial | constructor | unfold RV.flat | unfold RV.flats); done)), (by (repeat' first | exact flat_intRow _ | exact trivial | constructor | unfold Arg.flats | unfold Arg.flat); done)⟩) (by simp [St.args, St.arg, t0, t1, o0, o1, o2, o3, o4, o5, o6] <;> first | rfl | ((repeat' first | rfl | apply And.intro); done)) (by simp [apartArgs, mutsOf, noRow, valsOf]) (by simp) ?_; omega; omega; omega)
    | (refine callT_gen true (markI d _ ?_ ?_ ?_) (fun _ => ⟨(by first | (simp [RV.flat, RV.flats, T.flat]; done) | ((repeat' first | exact flat_intRow _ | exact trivial | constructor | unfold RV.flat | unfold RV.flats); done)), (by (repeat' first | exact flat_intRow _ | exact trivial | constructor | unfold Arg.flats | unfold Arg.flat); done)⟩) (by simp [St.args, St.arg, t0, t1, o0, o1, o2, o3, o4, o5, o6] <;> first | rfl | ((repeat' first | rfl | apply And.intro); done)) (by simp [apartArgs, mutsOf, noRow, valsOf]) (by simp) ?_; omega; omega; omega)
    | (refine callT_gen true (markI e _ ?_ ?_ ?_) (fun _ => ⟨(by first | (simp [RV.flat, RV.flats, T.flat]; done) | ((repeat' first | exact flat_intRow _ | exact trivial | constructor | unfold RV.flat | unfold RV.flats); done)), (by (repeat' first | exact flat_intRow _ | exact trivial | constructor | unfold Arg.flats | unfold Arg.flat); done)⟩) (by simp [St.args, St.arg, t0, t1, o0, o1, o2, o3, o4, o5, o6] <;> first | rfl | ((repeat' first | rfl | apply And.intro); done)) (by simp [apartArgs, mutsOf, noRow, valsOf]) (by simp) ?_; omega; omega; omega)
    | (refine callT_gen true (markI f _ ?_ ?_ ?_) (fun _ => ⟨(by first | (simp [RV.flat, RV.flats, T.flat]; done) | ((repeat' first | exact flat_intRow _ | exact trivial | constructor | unfold RV.flat | unfold RV.flats); done)), (by (repeat' first | exact flat_intRow _ | exact trivial | constructor | unfold Arg.flats | unfold Arg.flat); done)⟩) (by simp [St.args, St.arg, t0, t1, o0, o1, o2, o3, o4, o5, o6] <;> first | rfl | ((repeat' first | rfl | apply And.intro); done)) (by simp [apartArgs, mutsOf, noRow, valsOf]) (by simp) ?_; omega; omega; omega)
    | (refine callT_gen true (markI g _ ?_ ?_ ?_) (fun _ => ⟨(by first | (simp [RV.flat, RV.flats, T.flat]; done) | ((repeat' first | exact flat_intRow _ | exact trivial | constructor | unfold RV.flat | unfold RV.flats); done)), (by (repeat' first | exact flat_intRow _ | exact trivial | constructor | unfold Arg.flats | unfold Arg.flat); done)⟩) (by simp [St.args, St.arg, t0, t1, o0, o1, o2, o3, o4, o5, o6] <;> first | rfl | ((repeat' first | rfl | apply And.intro); done)) (by simp [apartArgs, mutsOf, noRow, valsOf]) (by simp) ?_; omega; omega; omega)
    | (simp (disch := omega) [t0, t1, o0, o1, o2, o3, o4, o5, o6]))
  all_goals try (simp [t0, t1, o0, o1, o2, o3, o4, o5, o6, Back]; done)
end Cal

/- A calculus of our own: more rules for reckoning: drawn regions, empty rows, nil. -/
set_option linter.unusedSimpArgs false
set_option linter.unusedVariables false
namespace Cal
open Go Go.Proofs
@[simp] theorem muteB_true (d : Option Nat) : muteB true [] d = true := by simp [muteB]
@[simp] theorem muted_true (d : Nat) (v : AV) (f : Eff) : muted true d (some (v, f)) = if f.all (fun p => p.1.1 == d) = true then some (v, f) else none := rfl
@[simp] theorem appendR_empty (x : Int) (d : Nat) (id : Id) : appendR (some (.row 1 [])) d id 0 (intRow [x]) = some (.row (d, 0) 1 0 1, [(id, none), ((d, 0), some (.row 1 (intRow [x])))]) := rfl
@[simp] theorem take_marked (k : Int) (n : Nat) : (intRow (marked k n)).take n = intRow (marked k n) := by
  have := take_intRow (marked k n)
  rwa [marked_length] at this
@[simp] theorem take_edgesTo (g : Gr) (p : List Int) (n : Nat) : (intRow (edgesTo g p n)).take n = intRow (edgesTo g p n) := by
  have := take_intRow (edgesTo g p n)
  rwa [edgesTo_length] at this
theorem callsF_nil {P : Program} {f : FuncId} {ags : List Arg} {outs : List (Option Arg)} (h : CallsF P f ags (.t (.v (.slice none 0 0))) outs) : CallsF P f ags (.t (ints [])) outs := by
  refine ⟨h.1, h.2.1, fun w S us usF ab a b c d e => (h.2.2 w S us usF ab a b c d e).mono fun e w' he => ?_⟩
  obtain ⟨u, S', bs, h1, h2, h3, h4, h5, h6, h7, h8⟩ := he
  refine ⟨u, S', bs, h1, h2, h3, h4, ?_, h6, h7, h8⟩
  unfold RVrep at h5 ⊢
  refine ⟨h5.1, ?_⟩
  have h9 := h5.2
  unfold Trep at h9
  rw [h9.1]
  unfold ints Trep
  exact ⟨none, 0, 0, rfl, rfl, Nat.le_refl _, by unfold maxLen; omega, fun h => absurd h (by omega)⟩
end Cal

set_option linter.unusedSimpArgs false
set_option linter.unusedVariables false
namespace Cal
open Go Go.Proofs
set_option maxRecDepth 100000
noncomputable def edgesR (g : Gr) (p : List Int) : List Int := if VG g ∧ IsPath g p then edgesTo g p p.length else []
theorem edgesR_yes {g : Gr} {p : List Int} (h : VG g ∧ IsPath g p) : edgesR g p = edgesTo g p p.length := by unfold edgesR; rw [if_pos h]
theorem edgesR_no {g : Gr} {p : List Int} (h : ¬ (VG g ∧ IsPath g p)) : edgesR g p = [] := by unfold edgesR; rw [if_neg h]
@[simp] theorem intRow_nil : intRow [] = [] := rfl
/-- What has been gathered of a path. -/
def EW (g : Gr) (p : List Int) (k : Nat) (s : St) : Prop := if k = 0 then s.tm 5 = .row (7, 0) 1 0 0 ∧ s.ob (7, 0) = some (.row 1 []) else s.tm 5 = .row (31, 0) 1 0 k ∧ s.ob (31, 0) = some (.row 1 (intRow (edgesTo g p k)))
/-- The code of spec.PathEdges. -/
def k30 : Code1 :=
  (.seq
    (.region [2] false ([]) [
      ⟨some 2, Op.box 27 (Operand.tmp 0), none⟩,
      ⟨some 4, Op.assign (Operand.const (Value.slice none 0 0)), none⟩])
    (.seq
      (.region [7] false ([]) [
        ⟨some 7, Op.buildSlice 22 0 #[], none⟩,
        ⟨some 5, Op.assign (Operand.tmp 7), none⟩])
      (.seq
        (.seq
          (.region [9, 13] false ([]) [
            ⟨some 8, Op.load 27 (Operand.tmp 2), none⟩,
            ⟨some 9, Op.call { callee := Callee.value (Operand.func 12), args := #[Operand.tmp 8], argTypes := #[27] }, none⟩,
            ⟨some 10, Op.move (Operand.tmp 9), none⟩,
            ⟨some 11, Op.load 27 (Operand.tmp 2), some (10, true)⟩,
            ⟨some 12, Op.move (Operand.tmp 1), some (10, true)⟩,
            ⟨some 13, Op.call { callee := Callee.value (Operand.func 51), args := #[Operand.tmp 11, Operand.tmp 12], argTypes := #[27, 22] }, some (10, true)⟩,
            ⟨some 14, Op.pick (Operand.tmp 10) (Operand.tmp 13) (Operand.const (Value.bool false)), none⟩])
          (.cond (Operand.tmp 14)
            (.seq
              (.region [] false ([]) [
                ⟨some 6, Op.assign (Operand.const (Value.int IntKind.i64 0)), none⟩])
              (.block 0
                (.loop
                  (.seq
                    (.seq
                      (.region [] false ([]) [
                        ⟨some 15, Op.move (Operand.tmp 6), none⟩,
                        ⟨some 16, Op.move (Operand.tmp 1), none⟩,
                        ⟨some 17, Op.call { callee := Callee.builtin Builtin.len, args := #[Operand.tmp 16], argTypes := #[22] }, none⟩,
                        ⟨some 18, Op.binOp BinOp.lss 3 (Operand.tmp 15) (Operand.tmp 17) 3, none⟩])
                      (.cond (Operand.tmp 18)
                        .skip
                        (.exit 0)))
                    (.seq
                      (.block 1
                        (.region [30, 31] true ([]) [
                          ⟨some 21, Op.move (Operand.tmp 5), none⟩,
                          ⟨some 22, Op.fieldAddr 27 (Operand.tmp 2) 0, none⟩,
                          ⟨some 23, Op.load 22 (Operand.tmp 22), none⟩,
                          ⟨some 24, Op.move (Operand.tmp 1), none⟩,
                          ⟨some 25, Op.move (Operand.tmp 6), none⟩,
                          ⟨some 26, Op.indexAddr 22 (Operand.tmp 24) (Operand.tmp 25), none⟩,
                          ⟨some 27, Op.load 2 (Operand.tmp 26), none⟩,
                          ⟨some 28, Op.indexAddr 22 (Operand.tmp 23) (Operand.tmp 27), none⟩,
                          ⟨some 29, Op.load 2 (Operand.tmp 28), none⟩,
                          ⟨some 30, Op.buildSlice 22 1 #[(0, Operand.tmp 29)], none⟩,
                          ⟨some 31, Op.call { callee := Callee.builtin Builtin.append, args := #[Operand.tmp 21, Operand.tmp 30], argTypes := #[22, 22] }, none⟩,
                          ⟨some 5, Op.assign (Operand.tmp 31), none⟩]))
                      (.region [] false ([]) [
                        ⟨some 19, Op.move (Operand.tmp 6), none⟩,
                        ⟨some 20, Op.binOp BinOp.add 3 (Operand.tmp 19) (Operand.const (Value.int IntKind.i64 1)) 3, none⟩,
                        ⟨some 6, Op.assign (Operand.tmp 20), none⟩]))))))
            .skip))
        (.seq
          (.region [] false ([]) [
            ⟨some 32, Op.move (Operand.tmp 5), none⟩,
            ⟨some 4, Op.assign (Operand.tmp 32), none⟩])
          .ret))))
set_option maxHeartbeats 0 in
theorem pathEdgesS (g : Gr) (p : List Int) (h : sumG g ≤ 1048576) (hp : p.length ≤ 1048576) : CallsF Try.prog 30 [.agg (encG g), .val (ints p)] (.own 1 (intRow (edgesR g p))) [] := by
  unfold sumG at h
  refine callsF_of_wp2 (fn := Try.f30) (k := k30) (fun _ => []) mixed (by kernel_rfl) rfl (by kernel_rfl) (by kernel_rfl) (by kernel_rfl) rfl (by simp [Try.f30]) (by simp [Arg.like]) ?_
  generalize hst : St.enter [.agg (encG g), .val (ints p)] = st0
  have t0 : st0.tm 0 = .agg ((encG g) |>.map .t) := by rw [← hst]; rfl
  have t1 : st0.tm 1 = .t (ints p) := by rw [← hst]; rfl
  clear hst
  unfold k30
  simp [encG] at t0
  by_cases hg : VG g
  · by_cases hq : IsPath g p
    · have hc := edgesR_yes ⟨hg, hq⟩
      have l1 := hg.l1
      have l3 := hg.l3
      have q1 := hq.pos
      have q2 := hq.le
      repeat' (first
        | (refine wp2_seq fun K hK => ?_)
        | (refine wp1_seq fun K hK => ?_)
        | (refine M_cons fun K hK => ?_)
        | (refine hK _ ?_; clear hK K)
        | (clear hK K; refine hK _ ?_; clear hK K)
        | (clear hK K; clear hK K; refine hK _ ?_; clear hK K)
        | (clear hK K; clear hK K; clear hK K; refine hK _ ?_; clear hK K)
        | (refine hX _ ?_; clear hX hY X Y)
        | (refine hY _ ?_; clear hX hY X Y)
        | (refine wp2_block ?_)
        | (refine wp1_block ?_)
        | (refine wp2_region ?_)
        | (refine wp1_region ?_)
        | (refine wp2_cond fun X Y hX hY => ?_)
        | (refine wp1_cond fun X Y hX hY => ?_)
        | (refine condK_of (fun c => ?_) (fun c => ?_) <;> (try simp [-List.length_eq_zero_iff] at c))
        | (refine guard1_or (fun c => ?_) (fun c => ?_) <;> (have cc := c) <;> (try simp [-List.length_eq_zero_iff] at cc) <;> (try simp (disch := omega) [t0, t1, hg, hq, encG, c]))
        | (refine callT_fl (vgS g ?_ ?_ ?_ ?_ ?_ ?_ ?_) (by simp [St.args, St.arg, t0, t1, hg, hq, encG] <;> first | rfl | (apply And.intro <;> rfl) | (apply And.intro; rfl; apply And.intro <;> rfl)) (by first | (simp [RV.flat, RV.flats, T.flat]; done) | ((repeat' first | exact flat_intRow _ | exact trivial | constructor | unfold RV.flat | unfold RV.flats); done)) (by simp [mutsOf]) ?_; omega; omega; omega; omega; omega; omega; omega)
        | (refine callT_fl (isPath_c g p hg hp) (by simp [St.args, St.arg, t0, t1, hg, hq, encG] <;> first | rfl | (apply And.intro <;> rfl) | (apply And.intro; rfl; apply And.intro <;> rfl)) (by first | (simp [RV.flat, RV.flats, T.flat]; done) | ((repeat' first | exact flat_intRow _ | exact trivial | constructor | unfold RV.flat | unfold RV.flats); done)) (by simp [mutsOf]) ?_)
        | (simp (disch := omega) [t0, t1, hg, hq, encG]))
      all_goals try (simp [t0, t1, hg, hq, encG, Back]; done)
      have hJ : ∀ s, EW g p p.length s → K s := by
        intro s hs
        unfold EW at hs
        rw [if_neg (by omega)] at hs
        obtain ⟨s5, o5⟩ := hs
        repeat' (first
          | (refine wp2_seq fun K hK => ?_)
          | (refine wp1_seq fun K hK => ?_)
          | (refine M_cons fun K hK => ?_)
          | (refine hK _ ?_; clear hK K)
          | (clear hK K; refine hK _ ?_; clear hK K)
          | (clear hK K; clear hK K; refine hK _ ?_; clear hK K)
          | (clear hK K; clear hK K; clear hK K; refine hK _ ?_; clear hK K)
          | (refine hX _ ?_; clear hX hY X Y)
          | (refine hY _ ?_; clear hX hY X Y)
          | (refine wp2_block ?_)
          | (refine wp1_block ?_)
          | (refine wp2_region ?_)
          | (refine wp1_region ?_)
          | (refine wp2_cond fun X Y hX hY => ?_)
          | (refine wp1_cond fun X Y hX hY => ?_)
          | (refine condK_of (fun c => ?_) (fun c => ?_) <;> (try simp [-List.length_eq_zero_iff] at c))
          | (refine guard1_or (fun c => ?_) (fun c => ?_) <;> (have cc := c) <;> (try simp [-List.length_eq_zero_iff] at cc) <;> (try simp (disch := omega) [s5, o5, hc, c]))
          | (simp (disch := omega) [s5, o5, hc]))
        all_goals try (simp [s5, o5, hc, Back]; done)
      clear hK
      refine wp2_loop (fun n s => ∃ k : Nat, GB g s ∧ s.tm 1 = .t (ints p) ∧ s.tm 6 = .t (.v (.int .i64 k)) ∧ EW g p k s ∧ k ≤ p.length ∧ n = p.length - k) p.length ?_ ?_
      · exact ⟨0, by simp [GB, EW, t1]⟩
      · rintro n s ⟨k, ⟨s2, o⟩, s1, s6, hw, hk, rfl⟩ K' hK'
        have d1 : k < p.length → 0 ≤ rd p k ∧ rd p k < g.edgeOf.length := fun hh => hq.inI (by omega) (by omega)
        by_cases hk0 : k = 0
        · subst hk0
          unfold EW at hw
          rw [if_pos rfl] at hw
          obtain ⟨s5, o5⟩ := hw
          simp only [Int.natCast_zero] at *
          repeat' (first
            | (refine wp2_seq fun K hK => ?_)
            | (refine wp1_seq fun K hK => ?_)
            | (refine M_cons fun K hK => ?_)
            | (refine hK _ ?_; clear hK K)
            | (clear hK K; refine hK _ ?_; clear hK K)
            | (clear hK K; clear hK K; refine hK _ ?_; clear hK K)
            | (clear hK K; clear hK K; clear hK K; refine hK _ ?_; clear hK K)
            | (refine hX _ ?_; clear hX hY X Y)
            | (refine hY _ ?_; clear hX hY X Y)
            | (refine wp2_block ?_)
            | (refine wp1_block ?_)
            | (refine wp2_rename (mk := [30, 31]) 31 60031 (by decide) ?_)
            | (refine wp2_region ?_)
            | (refine wp1_region ?_)
            | (refine wp2_cond fun X Y hX hY => ?_)
            | (refine wp1_cond fun X Y hX hY => ?_)
            | (refine condK_of (fun c => ?_) (fun c => ?_) <;> (try simp [-List.length_eq_zero_iff] at c))
            | (refine guard1_or (fun c => ?_) (fun c => ?_) <;> (have cc := c) <;> (try simp [-List.length_eq_zero_iff] at cc) <;> (try simp (disch := omega) [s2, o, s1, s6, s5, o5, c]))
            | (simp (disch := omega) [s2, o, s1, s6, s5, o5]))
          all_goals try (simp [s2, o, s1, s6, s5, o5, Back]; done)
          all_goals first
            | omega
            | (refine hK' (p.length - 1) _ (by omega) ⟨1, ?_⟩
               simp [GB, EW, s2, o, s1, edgesTo]
               exact ⟨rfl, by omega⟩)
            | skip
        · unfold EW at hw
          rw [if_neg hk0] at hw
          obtain ⟨s5, o5⟩ := hw
          have e9 : (edgesTo g p k).length = k := edgesTo_length g p k
          repeat' (first
            | (refine wp2_seq fun K hK => ?_)
            | (refine wp1_seq fun K hK => ?_)
            | (refine M_cons fun K hK => ?_)
            | (refine hK _ ?_; clear hK K)
            | (clear hK K; refine hK _ ?_; clear hK K)
            | (clear hK K; clear hK K; refine hK _ ?_; clear hK K)
            | (clear hK K; clear hK K; clear hK K; refine hK _ ?_; clear hK K)
            | (refine hX _ ?_; clear hX hY X Y)
            | (refine hY _ ?_; clear hX hY X Y)
            | (refine wp2_block ?_)
            | (refine wp1_block ?_)
            | (refine wp2_rename (mk := [30, 31]) 31 60031 (by decide) ?_)
            | (refine wp2_region ?_)
            | (refine wp1_region ?_)
            | (refine wp2_cond fun X Y hX hY => ?_)
            | (refine wp1_cond fun X Y hX hY => ?_)
            | (refine condK_of (fun c => ?_) (fun c => ?_) <;> (try simp [-List.length_eq_zero_iff] at c))
            | (refine guard1_or (fun c => ?_) (fun c => ?_) <;> (have cc := c) <;> (try simp [-List.length_eq_zero_iff] at cc) <;> (try simp (disch := omega) [s2, o, s1, s6, s5, o5, hk0, c]))
            | (simp (disch := omega) [s2, o, s1, s6, s5, o5, hk0]))
          all_goals try (simp [s2, o, s1, s6, s5, o5, hk0, Back]; done)
          · refine hK' (p.length - (k + 1)) _ (by omega) ⟨k + 1, ?_⟩
            simp [GB, EW, s2, o, s1, edgesTo_succ]
            omega
          · have hkl : k = p.length := by omega
            refine hJ _ ?_
            rw [← hkl]
            simp [EW, hk0, s5, o5]
    · have hc := edgesR_no (g := g) (p := p) fun h => hq h.2
      repeat' (first
        | (refine wp2_seq fun K hK => ?_)
        | (refine wp1_seq fun K hK => ?_)
        | (refine M_cons fun K hK => ?_)
        | (refine hK _ ?_; clear hK K)
        | (clear hK K; refine hK _ ?_; clear hK K)
        | (clear hK K; clear hK K; refine hK _ ?_; clear hK K)
        | (clear hK K; clear hK K; clear hK K; refine hK _ ?_; clear hK K)
        | (refine hX _ ?_; clear hX hY X Y)
        | (refine hY _ ?_; clear hX hY X Y)
        | (refine wp2_block ?_)
        | (refine wp1_block ?_)
        | (refine wp2_region ?_)
        | (refine wp1_region ?_)
        | (refine wp2_cond fun X Y hX hY => ?_)
        | (refine wp1_cond fun X Y hX hY => ?_)
        | (refine condK_of (fun c => ?_) (fun c => ?_) <;> (try simp [-List.length_eq_zero_iff] at c))
        | (refine guard1_or (fun c => ?_) (fun c => ?_) <;> (have cc := c) <;> (try simp [-List.length_eq_zero_iff] at cc) <;> (try simp (disch := omega) [t0, t1, hg, hq, encG, hc, c]))
        | (refine callT_fl (vgS g ?_ ?_ ?_ ?_ ?_ ?_ ?_) (by simp [St.args, St.arg, t0, t1, hg, hq, encG, hc] <;> first | rfl | (apply And.intro <;> rfl) | (apply And.intro; rfl; apply And.intro <;> rfl)) (by first | (simp [RV.flat, RV.flats, T.flat]; done) | ((repeat' first | exact flat_intRow _ | exact trivial | constructor | unfold RV.flat | unfold RV.flats); done)) (by simp [mutsOf]) ?_; omega; omega; omega; omega; omega; omega; omega)
        | (refine callT_fl (isPath_c g p hg hp) (by simp [St.args, St.arg, t0, t1, hg, hq, encG, hc] <;> first | rfl | (apply And.intro <;> rfl) | (apply And.intro; rfl; apply And.intro <;> rfl)) (by first | (simp [RV.flat, RV.flats, T.flat]; done) | ((repeat' first | exact flat_intRow _ | exact trivial | constructor | unfold RV.flat | unfold RV.flats); done)) (by simp [mutsOf]) ?_)
        | (simp (disch := omega) [t0, t1, hg, hq, encG, hc]))
      all_goals try (simp [t0, t1, hg, hq, encG, hc, Back]; done)
  · have hc := edgesR_no (g := g) (p := p) fun h => hg h.1
    repeat' (first
      | (refine wp2_seq fun K hK => ?_)
      | (refine wp1_seq fun K hK => ?_)
      | (refine M_cons fun K hK => ?_)
      | (refine hK _ ?_; clear hK K)
      | (clear hK K; refine hK _ ?_; clear hK K)
      | (clear hK K; clear hK K; refine hK _ ?_; clear hK K)
      | (clear hK K; clear hK K; clear hK K; refine hK _ ?_; clear hK K)
      | (refine hX _ ?_; clear hX hY X Y)
      | (refine hY _ ?_; clear hX hY X Y)
      | (refine wp2_block ?_)
      | (refine wp1_block ?_)
      | (refine wp2_region ?_)
      | (refine wp1_region ?_)
      | (refine wp2_cond fun X Y hX hY => ?_)
      | (refine wp1_cond fun X Y hX hY => ?_)
      | (refine condK_of (fun c => ?_) (fun c => ?_) <;> (try simp [-List.length_eq_zero_iff] at c))
      | (refine guard1_or (fun c => ?_) (fun c => ?_) <;> (have cc := c) <;> (try simp [-List.length_eq_zero_iff] at cc) <;> (try simp (disch := omega) [t0, t1, hg, encG, hc, c]))
      | (refine callT_fl (vgS g ?_ ?_ ?_ ?_ ?_ ?_ ?_) (by simp [St.args, St.arg, t0, t1, hg, encG, hc] <;> first | rfl | (apply And.intro <;> rfl) | (apply And.intro; rfl; apply And.intro <;> rfl)) (by first | (simp [RV.flat, RV.flats, T.flat]; done) | ((repeat' first | exact flat_intRow _ | exact trivial | constructor | unfold RV.flat | unfold RV.flats); done)) (by simp [mutsOf]) ?_; omega; omega; omega; omega; omega; omega; omega)
      | (simp (disch := omega) [t0, t1, hg, encG, hc]))
    all_goals try (simp [t0, t1, hg, encG, hc, Back]; done)
/-- The code of impl.PathEdges. -/
def k31 : Code1 :=
  (.seq
    (.region [2] false ([]) [
      ⟨some 2, Op.box 27 (Operand.tmp 0), none⟩,
      ⟨some 4, Op.assign (Operand.const (Value.slice none 0 0)), none⟩])
    (.seq
      (.region [11] false ([]) [
        ⟨some 9, Op.load 27 (Operand.tmp 2), none⟩,
        ⟨some 10, Op.move (Operand.tmp 1), none⟩,
        ⟨some 11, Op.call { callee := Callee.value (Operand.func 53), args := #[Operand.tmp 9, Operand.tmp 10], argTypes := #[27, 22] }, none⟩,
        ⟨some 8, Op.move (Operand.tmp 11), none⟩,
        ⟨some 12, Op.extract (Operand.tmp 8) 0, none⟩,
        ⟨some 13, Op.extract (Operand.tmp 8) 1, none⟩,
        ⟨some 14, Op.extract (Operand.tmp 8) 2, none⟩,
        ⟨some 5, Op.assign (Operand.tmp 12), none⟩,
        ⟨some 6, Op.assign (Operand.tmp 13), none⟩,
        ⟨some 7, Op.assign (Operand.tmp 14), none⟩])
      (.seq
        (.region [] false ([]) [
          ⟨some 15, Op.move (Operand.tmp 5), none⟩,
          ⟨some 4, Op.assign (Operand.tmp 15), none⟩])
        .ret)))
set_option maxHeartbeats 0 in
theorem pathEdgesI_y {g : Gr} {p : List Int} (hg : VG g) (hq : IsPath g p) (h : sumG g ≤ 1048576) (hp : p.length ≤ 1048576) : CallsF Try.prog 31 [.agg (encG g), .val (ints p)] (.own 1 (intRow (edgesTo g p p.length))) [] := by
  refine callsF_of_wp1 (fn := Try.f31) (k := k31) (fun _ => []) mixed (by kernel_rfl) rfl (by kernel_rfl) (by kernel_rfl) (by kernel_rfl) rfl (by simp [Try.f31]) (by simp [Arg.like]) ?_
  generalize hst : St.enter [.agg (encG g), .val (ints p)] = st0
  have t0 : st0.tm 0 = .agg ((encG g) |>.map .t) := by rw [← hst]; rfl
  have t1 : st0.tm 1 = .t (ints p) := by rw [← hst]; rfl
  clear hst
  unfold k31
  simp [encG] at t0
  repeat' (first
    | (refine wp2_seq fun K hK => ?_)
    | (refine wp1_seq fun K hK => ?_)
    | (refine M_cons fun K hK => ?_)
    | (refine hK _ ?_; clear hK K)
    | (clear hK K; refine hK _ ?_; clear hK K)
    | (clear hK K; clear hK K; refine hK _ ?_; clear hK K)
    | (clear hK K; clear hK K; clear hK K; refine hK _ ?_; clear hK K)
    | (refine hX _ ?_; clear hX hY X Y)
    | (refine hY _ ?_; clear hX hY X Y)
    | (refine wp2_block ?_)
    | (refine wp1_block ?_)
    | (refine wp2_region ?_)
    | (refine wp1_region ?_)
    | (refine wp2_cond fun X Y hX hY => ?_)
    | (refine wp1_cond fun X Y hX hY => ?_)
    | (refine condK_of (fun c => ?_) (fun c => ?_) <;> (try simp [-List.length_eq_zero_iff] at c))
    | (refine guard1_or (fun c => ?_) (fun c => ?_) <;> (have cc := c) <;> (try simp [-List.length_eq_zero_iff] at cc) <;> (try simp (disch := omega) [t0, t1, encG, c]))
    | (refine callT_fl (followed_y hg hq h hp) (by simp [St.args, St.arg, t0, t1, encG] <;> first | rfl | (apply And.intro <;> rfl) | (apply And.intro; rfl; apply And.intro <;> rfl)) (by first | (simp [RV.flat, RV.flats, T.flat]; done) | ((repeat' first | exact flat_intRow _ | exact trivial | constructor | unfold RV.flat | unfold RV.flats); done)) (by simp [mutsOf]) ?_)
    | (simp (disch := omega) [t0, t1, encG]))
  all_goals try (simp [t0, t1, encG, Back]; done)
set_option maxHeartbeats 0 in
theorem pathEdgesI_n {g : Gr} {p : List Int} (hq : VG g → ¬ IsPath g p) (h : sumG g ≤ 1048576) (hp : p.length ≤ 1048576) : CallsF Try.prog 31 [.agg (encG g), .val (ints p)] (.t (.v (.slice none 0 0))) [] := by
  refine callsF_of_wp1 (fn := Try.f31) (k := k31) (fun _ => []) mixed (by kernel_rfl) rfl (by kernel_rfl) (by kernel_rfl) (by kernel_rfl) rfl (by simp [Try.f31]) (by simp [Arg.like]) ?_
  generalize hst : St.enter [.agg (encG g), .val (ints p)] = st0
  have t0 : st0.tm 0 = .agg ((encG g) |>.map .t) := by rw [← hst]; rfl
  have t1 : st0.tm 1 = .t (ints p) := by rw [← hst]; rfl
  clear hst
  unfold k31
  simp [encG] at t0
  repeat' (first
    | (refine wp2_seq fun K hK => ?_)
    | (refine wp1_seq fun K hK => ?_)
    | (refine M_cons fun K hK => ?_)
    | (refine hK _ ?_; clear hK K)
    | (clear hK K; refine hK _ ?_; clear hK K)
    | (clear hK K; clear hK K; refine hK _ ?_; clear hK K)
    | (clear hK K; clear hK K; clear hK K; refine hK _ ?_; clear hK K)
    | (refine hX _ ?_; clear hX hY X Y)
    | (refine hY _ ?_; clear hX hY X Y)
    | (refine wp2_block ?_)
    | (refine wp1_block ?_)
    | (refine wp2_region ?_)
    | (refine wp1_region ?_)
    | (refine wp2_cond fun X Y hX hY => ?_)
    | (refine wp1_cond fun X Y hX hY => ?_)
    | (refine condK_of (fun c => ?_) (fun c => ?_) <;> (try simp [-List.length_eq_zero_iff] at c))
    | (refine guard1_or (fun c => ?_) (fun c => ?_) <;> (have cc := c) <;> (try simp [-List.length_eq_zero_iff] at cc) <;> (try simp (disch := omega) [t0, t1, encG, c]))
    | (refine callT_fl (followed_n hq h hp) (by simp [St.args, St.arg, t0, t1, encG] <;> first | rfl | (apply And.intro <;> rfl) | (apply And.intro; rfl; apply And.intro <;> rfl)) (by first | (simp [RV.flat, RV.flats, T.flat]; done) | ((repeat' first | exact flat_intRow _ | exact trivial | constructor | unfold RV.flat | unfold RV.flats); done)) (by simp [mutsOf]) ?_)
    | (simp (disch := omega) [t0, t1, encG]))
  all_goals try (simp [t0, t1, encG, Back]; done)
end Cal

set_option linter.unusedSimpArgs false
set_option linter.unusedVariables false
namespace Cal
open Go Go.Proofs
set_option maxRecDepth 100000
/-- A call whose first argument is the nil slice. -/
theorem callT_nil {P : Program} {f : FuncId} {mute : Bool} {st : St} {v2 : AV} {d : Option Nat} {K : St → Prop} {b2 : Arg} {res : RV} (h : CallsF P f [.val (.v (.slice none 0 0)), b2] res []) (ha : st.args [v2] [b2]) (hf : res.flat) (hm : mutsOf [v2] [b2] = [])
    (hK : K ((st.eff (retOf d res).2).put d (retOf d res).1)) : callT P f mute st [.t (.v (.slice none 0 0)), v2] d K :=
  callT_flat h hf ⟨rfl, ha⟩ (by simpa [mutsOf] using hm) hK
/-- A call that is handed a row to be written, and a value. -/
theorem callT_mrow {P : Program} {f : FuncId} {st : St} {id : Id} {n : Nat} {v2 : AV} {d : Option Nat} {K : St → Prop} {l : List Int} {y : T} {res : RV} {outs : List (Option Arg)} (h : CallsF P f [.mrow 1 (intRow l), .val y] res outs) (ho : st.ob id = some (.row 1 (intRow l))) (hn : n = l.length) (hv : v2 = .t y) (hf : res.flat) (hfl : Arg.flats outs)
    (hK : K ((st.eff (outEff [AV.row id 1 0 n, v2] [.mrow 1 (intRow l), .val y] outs ++ (retOf d res).2)).put d (retOf d res).1)) : callT P f false st [.row id 1 0 n, v2] d K := by
  subst hv
  refine callT_gen true h (fun _ => ⟨hf, hfl⟩) ⟨⟨id, by simp [hn], ho⟩, rfl, trivial⟩ ⟨by simp [mutsOf], by simp [mutsOf, valsOf, noRow]⟩ (fun h => by cases h) ?_
  simpa [callFrz] using hK
theorem heldN (k : Int) : CallsF Try.prog 29 [.val (.v (.slice none 0 0)), .val (.v (.int .i64 k))] (.t (.v (.int .i64 k))) [] := by
  refine callsF_of_wp2 (fn := Try.f29) (k := k29) (fun _ => []) mixed (by kernel_rfl) rfl (by kernel_rfl) (by kernel_rfl) (by kernel_rfl) rfl (by simp [Try.f29]) (by simp [Arg.like]) ?_
  generalize hst : St.enter [.val (.v (.slice none 0 0)), .val (.v (.int .i64 k))] = st0
  have t0 : st0.tm 0 = .t (.v (.slice none 0 0)) := by rw [← hst]; rfl
  have t1 : st0.tm 1 = .t (.v (.int .i64 k)) := by rw [← hst]; rfl
  clear hst
  unfold k29
  repeat' (first
    | (refine wp2_seq fun K hK => ?_)
    | (refine wp1_seq fun K hK => ?_)
    | (refine M_cons fun K hK => ?_)
    | (refine hK _ ?_; clear hK K)
    | (clear hK K; refine hK _ ?_; clear hK K)
    | (clear hK K; clear hK K; refine hK _ ?_; clear hK K)
    | (clear hK K; clear hK K; clear hK K; refine hK _ ?_; clear hK K)
    | (refine hX _ ?_; clear hX hY X Y)
    | (refine hY _ ?_; clear hX hY X Y)
    | (refine wp2_block ?_)
    | (refine wp1_block ?_)
    | (refine wp2_region ?_)
    | (refine wp1_region ?_)
    | (refine wp2_cond fun X Y hX hY => ?_)
    | (refine wp1_cond fun X Y hX hY => ?_)
    | (refine condK_of (fun c => ?_) (fun c => ?_) <;> (try simp [-List.length_eq_zero_iff] at c))
    | (refine guard1_or (fun c => ?_) (fun c => ?_) <;> (have cc := c) <;> (try simp [-List.length_eq_zero_iff] at cc) <;> (try simp (disch := omega) [t0, t1, c]))
    | (simp (disch := omega) [t0, t1]))
  all_goals try (simp [t0, t1, Back]; done)
  have hJ : ∀ s, s.tm 1 = .t (.v (.int .i64 k)) → K s := by
    intro s s1
    repeat' (first
      | (refine wp2_seq fun K hK => ?_)
      | (refine wp1_seq fun K hK => ?_)
      | (refine M_cons fun K hK => ?_)
      | (refine hK _ ?_; clear hK K)
      | (clear hK K; refine hK _ ?_; clear hK K)
      | (clear hK K; clear hK K; refine hK _ ?_; clear hK K)
      | (clear hK K; clear hK K; clear hK K; refine hK _ ?_; clear hK K)
      | (refine hX _ ?_; clear hX hY X Y)
      | (refine hY _ ?_; clear hX hY X Y)
      | (refine wp2_block ?_)
      | (refine wp1_block ?_)
      | (refine wp2_region ?_)
      | (refine wp1_region ?_)
      | (refine wp2_cond fun X Y hX hY => ?_)
      | (refine wp1_cond fun X Y hX hY => ?_)
      | (refine condK_of (fun c => ?_) (fun c => ?_) <;> (try simp [-List.length_eq_zero_iff] at c))
      | (refine guard1_or (fun c => ?_) (fun c => ?_) <;> (have cc := c) <;> (try simp [-List.length_eq_zero_iff] at cc) <;> (try simp (disch := omega) [s1, c]))
      | (simp (disch := omega) [s1]))
    all_goals try (simp [s1, Back]; done)
  clear hK
  refine wp2_loop (fun n s => s.tm 0 = .t (.v (.slice none 0 0)) ∧ s.tm 1 = .t (.v (.int .i64 k)) ∧ s.tm 5 = .t (.v (.int .i64 0))) 0 ?_ ?_
  · simp [t0, t1]
  · rintro n s ⟨s0, s1, s5⟩ K' hK'
    repeat' (first
      | (refine wp2_seq fun K hK => ?_)
      | (refine wp1_seq fun K hK => ?_)
      | (refine M_cons fun K hK => ?_)
      | (refine hK _ ?_; clear hK K)
      | (clear hK K; refine hK _ ?_; clear hK K)
      | (clear hK K; clear hK K; refine hK _ ?_; clear hK K)
      | (clear hK K; clear hK K; clear hK K; refine hK _ ?_; clear hK K)
      | (refine hX _ ?_; clear hX hY X Y)
      | (refine hY _ ?_; clear hX hY X Y)
      | (refine wp2_block ?_)
      | (refine wp1_block ?_)
      | (refine wp2_region ?_)
      | (refine wp1_region ?_)
      | (refine wp2_cond fun X Y hX hY => ?_)
      | (refine wp1_cond fun X Y hX hY => ?_)
      | (refine condK_of (fun c => ?_) (fun c => ?_) <;> (try simp [-List.length_eq_zero_iff] at c))
      | (refine guard1_or (fun c => ?_) (fun c => ?_) <;> (have cc := c) <;> (try simp [-List.length_eq_zero_iff] at cc) <;> (try simp (disch := omega) [s0, s1, s5, c]))
      | (simp (disch := omega) [s0, s1, s5]))
    all_goals try (simp [s0, s1, s5, Back]; done)
    exact hJ _ (by simp [s1])
theorem markN (k : Int) : CallsF Try.prog 28 [.val (.v (.slice none 0 0)), .val (.v (.int .i64 k))] (.t (.v (.int .i64 k))) [] := by
  refine callsF_of_wp2 (fn := Try.f28) (k := k28) (fun _ => []) mixed (by kernel_rfl) rfl (by kernel_rfl) (by kernel_rfl) (by kernel_rfl) rfl (by simp [Try.f28]) (by simp [Arg.like]) ?_
  generalize hst : St.enter [.val (.v (.slice none 0 0)), .val (.v (.int .i64 k))] = st0
  have t0 : st0.tm 0 = .t (.v (.slice none 0 0)) := by rw [← hst]; rfl
  have t1 : st0.tm 1 = .t (.v (.int .i64 k)) := by rw [← hst]; rfl
  clear hst
  unfold k28
  repeat' (first
    | (refine wp2_seq fun K hK => ?_)
    | (refine wp1_seq fun K hK => ?_)
    | (refine M_cons fun K hK => ?_)
    | (refine hK _ ?_; clear hK K)
    | (clear hK K; refine hK _ ?_; clear hK K)
    | (clear hK K; clear hK K; refine hK _ ?_; clear hK K)
    | (clear hK K; clear hK K; clear hK K; refine hK _ ?_; clear hK K)
    | (refine hX _ ?_; clear hX hY X Y)
    | (refine hY _ ?_; clear hX hY X Y)
    | (refine wp2_block ?_)
    | (refine wp1_block ?_)
    | (refine wp2_region ?_)
    | (refine wp1_region ?_)
    | (refine wp2_cond fun X Y hX hY => ?_)
    | (refine wp1_cond fun X Y hX hY => ?_)
    | (refine condK_of (fun c => ?_) (fun c => ?_) <;> (try simp [-List.length_eq_zero_iff] at c))
    | (refine guard1_or (fun c => ?_) (fun c => ?_) <;> (have cc := c) <;> (try simp [-List.length_eq_zero_iff] at cc) <;> (try simp (disch := omega) [t0, t1, c]))
    | (simp (disch := omega) [t0, t1]))
  all_goals try (simp [t0, t1, Back]; done)
  have hJ : ∀ s, s.tm 1 = .t (.v (.int .i64 k)) → K s := by
    intro s s1
    repeat' (first
      | (refine wp2_seq fun K hK => ?_)
      | (refine wp1_seq fun K hK => ?_)
      | (refine M_cons fun K hK => ?_)
      | (refine hK _ ?_; clear hK K)
      | (clear hK K; refine hK _ ?_; clear hK K)
      | (clear hK K; clear hK K; refine hK _ ?_; clear hK K)
      | (clear hK K; clear hK K; clear hK K; refine hK _ ?_; clear hK K)
      | (refine hX _ ?_; clear hX hY X Y)
      | (refine hY _ ?_; clear hX hY X Y)
      | (refine wp2_block ?_)
      | (refine wp1_block ?_)
      | (refine wp2_region ?_)
      | (refine wp1_region ?_)
      | (refine wp2_cond fun X Y hX hY => ?_)
      | (refine wp1_cond fun X Y hX hY => ?_)
      | (refine condK_of (fun c => ?_) (fun c => ?_) <;> (try simp [-List.length_eq_zero_iff] at c))
      | (refine guard1_or (fun c => ?_) (fun c => ?_) <;> (have cc := c) <;> (try simp [-List.length_eq_zero_iff] at cc) <;> (try simp (disch := omega) [s1, c]))
      | (simp (disch := omega) [s1]))
    all_goals try (simp [s1, Back]; done)
  clear hK
  refine wp2_loop (fun n s => s.tm 0 = .t (.v (.slice none 0 0)) ∧ s.tm 1 = .t (.v (.int .i64 k)) ∧ s.tm 5 = .t (.v (.int .i64 0))) 0 ?_ ?_
  · simp [t0, t1]
  · rintro n s ⟨s0, s1, s5⟩ K' hK'
    repeat' (first
      | (refine wp2_seq fun K hK => ?_)
      | (refine wp1_seq fun K hK => ?_)
      | (refine M_cons fun K hK => ?_)
      | (refine hK _ ?_; clear hK K)
      | (clear hK K; refine hK _ ?_; clear hK K)
      | (clear hK K; clear hK K; refine hK _ ?_; clear hK K)
      | (clear hK K; clear hK K; clear hK K; refine hK _ ?_; clear hK K)
      | (refine hX _ ?_; clear hX hY X Y)
      | (refine hY _ ?_; clear hX hY X Y)
      | (refine wp2_block ?_)
      | (refine wp1_block ?_)
      | (refine wp2_region ?_)
      | (refine wp1_region ?_)
      | (refine wp2_cond fun X Y hX hY => ?_)
      | (refine wp1_cond fun X Y hX hY => ?_)
      | (refine condK_of (fun c => ?_) (fun c => ?_) <;> (try simp [-List.length_eq_zero_iff] at c))
      | (refine guard1_or (fun c => ?_) (fun c => ?_) <;> (have cc := c) <;> (try simp [-List.length_eq_zero_iff] at cc) <;> (try simp (disch := omega) [s0, s1, s5, c]))
      | (simp (disch := omega) [s0, s1, s5]))
    all_goals try (simp [s0, s1, s5, Back]; done)
    exact hJ _ (by simp [s1])
theorem eqN : CallsF Try.prog 24 [.val (.v (.slice none 0 0)), .val (ints [])] (.t (.v (.bool true))) [] := by
  refine callsF_of_wp2 (fn := Try.f24) (k := k24) (fun _ => []) mixed (by kernel_rfl) rfl (by kernel_rfl) (by kernel_rfl) (by kernel_rfl) rfl (by simp [Try.f24]) (by simp [Arg.like]) ?_
  generalize hst : St.enter [.val (.v (.slice none 0 0)), .val (ints [])] = st0
  have t0 : st0.tm 0 = .t (.v (.slice none 0 0)) := by rw [← hst]; rfl
  have t1 : st0.tm 1 = .t (ints []) := by rw [← hst]; rfl
  clear hst
  unfold k24
  repeat' (first
    | (refine wp2_seq fun K hK => ?_)
    | (refine wp1_seq fun K hK => ?_)
    | (refine M_cons fun K hK => ?_)
    | (refine hK _ ?_; clear hK K)
    | (clear hK K; refine hK _ ?_; clear hK K)
    | (clear hK K; clear hK K; refine hK _ ?_; clear hK K)
    | (clear hK K; clear hK K; clear hK K; refine hK _ ?_; clear hK K)
    | (refine hX _ ?_; clear hX hY X Y)
    | (refine hY _ ?_; clear hX hY X Y)
    | (refine wp2_block ?_)
    | (refine wp1_block ?_)
    | (refine wp2_region ?_)
    | (refine wp1_region ?_)
    | (refine wp2_cond fun X Y hX hY => ?_)
    | (refine wp1_cond fun X Y hX hY => ?_)
    | (refine condK_of (fun c => ?_) (fun c => ?_) <;> (try simp [-List.length_eq_zero_iff] at c))
    | (refine guard1_or (fun c => ?_) (fun c => ?_) <;> (have cc := c) <;> (try simp [-List.length_eq_zero_iff] at cc) <;> (try simp (disch := omega) [t0, t1, c]))
    | (simp (disch := omega) [t0, t1]))
  all_goals try (simp [t0, t1, Back]; done)
  have hJ : ∀ s, K s := by
    intro s
    repeat' (first
      | (refine wp2_seq fun K hK => ?_)
      | (refine wp1_seq fun K hK => ?_)
      | (refine M_cons fun K hK => ?_)
      | (refine hK _ ?_; clear hK K)
      | (clear hK K; refine hK _ ?_; clear hK K)
      | (clear hK K; clear hK K; refine hK _ ?_; clear hK K)
      | (clear hK K; clear hK K; clear hK K; refine hK _ ?_; clear hK K)
      | (refine hX _ ?_; clear hX hY X Y)
      | (refine hY _ ?_; clear hX hY X Y)
      | (refine wp2_block ?_)
      | (refine wp1_block ?_)
      | (refine wp2_region ?_)
      | (refine wp1_region ?_)
      | (refine wp2_cond fun X Y hX hY => ?_)
      | (refine wp1_cond fun X Y hX hY => ?_)
      | (refine condK_of (fun c => ?_) (fun c => ?_) <;> (try simp [-List.length_eq_zero_iff] at c))
      | (refine guard1_or (fun c => ?_) (fun c => ?_) <;> (have cc := c) <;> (try simp [-List.length_eq_zero_iff] at cc) <;> (try simp (disch := omega) [c]))
      | (simp (disch := omega) []))
    all_goals try (simp [Back]; done)
  clear hK
  refine wp2_loop (fun n s => s.tm 0 = .t (.v (.slice none 0 0)) ∧ s.tm 5 = .t (.v (.int .i64 0))) 0 ?_ ?_
  · simp [t0, t1]
  · rintro n s ⟨s0, s5⟩ K' hK'
    repeat' (first
      | (refine wp2_seq fun K hK => ?_)
      | (refine wp1_seq fun K hK => ?_)
      | (refine M_cons fun K hK => ?_)
      | (refine hK _ ?_; clear hK K)
      | (clear hK K; refine hK _ ?_; clear hK K)
      | (clear hK K; clear hK K; refine hK _ ?_; clear hK K)
      | (clear hK K; clear hK K; clear hK K; refine hK _ ?_; clear hK K)
      | (refine hX _ ?_; clear hX hY X Y)
      | (refine hY _ ?_; clear hX hY X Y)
      | (refine wp2_block ?_)
      | (refine wp1_block ?_)
      | (refine wp2_region ?_)
      | (refine wp1_region ?_)
      | (refine wp2_cond fun X Y hX hY => ?_)
      | (refine wp1_cond fun X Y hX hY => ?_)
      | (refine condK_of (fun c => ?_) (fun c => ?_) <;> (try simp [-List.length_eq_zero_iff] at c))
      | (refine guard1_or (fun c => ?_) (fun c => ?_) <;> (have cc := c) <;> (try simp [-List.length_eq_zero_iff] at cc) <;> (try simp (disch := omega) [s0, s5, c]))
      | (simp (disch := omega) [s0, s5]))
    all_goals try (simp [s0, s5, Back]; done)
    exact hJ _
/-- The code of laws.FnExactPathEdges. -/
def k7 : Code1 :=
  (.seq
    (.region [2] false ([]) [
      ⟨some 2, Op.box 24 (Operand.tmp 0), none⟩,
      ⟨some 4, Op.assign (Operand.const (Value.bool false)), none⟩])
    (.seq
      (.seq
        (.region [] false ([]) [
          ⟨some 14, Op.move (Operand.tmp 1), none⟩,
          ⟨some 15, Op.call { callee := Callee.builtin Builtin.len, args := #[Operand.tmp 14], argTypes := #[22] }, none⟩,
          ⟨some 16, Op.binOp BinOp.gtr 3 (Operand.tmp 15) (Operand.const (Value.int IntKind.i64 1048576)) 3, none⟩])
        (.cond (Operand.tmp 16)
          (.seq
            (.region [] false ([]) [
              ⟨some 4, Op.assign (Operand.const (Value.bool true)), none⟩])
            .ret)
          .skip))
      (.seq
        (.region [] false ([]) [
          ⟨some 5, Op.assign (Operand.const (Value.int IntKind.i64 1048576)), none⟩])
        (.seq
          (.region [19] false ([]) [
            ⟨some 17, Op.load 24 (Operand.tmp 2), none⟩,
            ⟨some 18, Op.move (Operand.tmp 5), none⟩,
            ⟨some 19, Op.call { callee := Callee.value (Operand.func 11), args := #[Operand.tmp 17, Operand.tmp 18], argTypes := #[24, 3] }, none⟩,
            ⟨some 5, Op.assign (Operand.tmp 19), none⟩])
          (.seq
            (.seq
              (.region [] false ([]) [
                ⟨some 20, Op.move (Operand.tmp 5), none⟩,
                ⟨some 21, Op.binOp BinOp.lss 3 (Operand.tmp 20) (Operand.const (Value.int IntKind.i64 0)) 3, none⟩])
              (.cond (Operand.tmp 21)
                (.seq
                  (.region [] false ([]) [
                    ⟨some 4, Op.assign (Operand.const (Value.bool true)), none⟩])
                  .ret)
                .skip))
            (.seq
              (.region [23, 25, 26] false ([]) [
                ⟨some 22, Op.load 24 (Operand.tmp 2), none⟩,
                ⟨some 23, Op.call { callee := Callee.value (Operand.func 13), args := #[Operand.tmp 22], argTypes := #[24] }, none⟩,
                ⟨some 24, Op.move (Operand.tmp 1), none⟩,
                ⟨some 25, Op.call { callee := Callee.value (Operand.func 22), args := #[Operand.tmp 24], argTypes := #[22] }, none⟩,
                ⟨some 26, Op.call { callee := Callee.value (Operand.func 30), args := #[Operand.tmp 23, Operand.tmp 25], argTypes := #[27, 22] }, none⟩,
                ⟨some 6, Op.assign (Operand.tmp 26), none⟩])
              (.seq
                (.region [28, 7] false ([]) [
                  ⟨some 27, Op.load 24 (Operand.tmp 2), none⟩,
                  ⟨some 28, Op.call { callee := Callee.value (Operand.func 13), args := #[Operand.tmp 27], argTypes := #[24] }, none⟩,
                  ⟨some 7, Op.alloc 27, none⟩,
                  ⟨none, Op.store 27 (Operand.tmp 7) (Operand.tmp 28), none⟩])
                (.seq
                  (.region [30] false ([]) [
                    ⟨some 29, Op.move (Operand.tmp 1), none⟩,
                    ⟨some 30, Op.call { callee := Callee.value (Operand.func 22), args := #[Operand.tmp 29], argTypes := #[22] }, none⟩,
                    ⟨some 8, Op.assign (Operand.tmp 30), none⟩])
                  (.seq
                    (.region [33] false ([]) [
                      ⟨some 31, Op.load 27 (Operand.tmp 7), none⟩,
                      ⟨some 32, Op.move (Operand.tmp 8), none⟩,
                      ⟨some 33, Op.call { callee := Callee.value (Operand.func 31), args := #[Operand.tmp 31, Operand.tmp 32], argTypes := #[27, 22] }, none⟩,
                      ⟨some 9, Op.assign (Operand.tmp 33), none⟩])
                    (.seq
                      (.seq
                        (.region [36] false ([]) [
                          ⟨some 34, Op.move (Operand.tmp 9), none⟩,
                          ⟨some 35, Op.move (Operand.tmp 6), none⟩,
                          ⟨some 36, Op.call { callee := Callee.value (Operand.func 24), args := #[Operand.tmp 34, Operand.tmp 35], argTypes := #[22, 22] }, none⟩,
                          ⟨some 37, Op.unOp UnOp.not 4 (Operand.tmp 36), none⟩])
                        (.cond (Operand.tmp 37)
                          (.seq
                            (.region [] false ([]) [
                              ⟨some 4, Op.assign (Operand.const (Value.bool false)), none⟩])
                            .ret)
                          .skip))
                      (.seq
                        (.seq
                          (.region [40, 41] true ([]) [
                            ⟨some 38, Op.load 27 (Operand.tmp 7), none⟩,
                            ⟨some 39, Op.load 24 (Operand.tmp 2), none⟩,
                            ⟨some 40, Op.call { callee := Callee.value (Operand.func 13), args := #[Operand.tmp 39], argTypes := #[24] }, none⟩,
                            ⟨some 41, Op.call { callee := Callee.value (Operand.func 15), args := #[Operand.tmp 38, Operand.tmp 40], argTypes := #[27, 27] }, none⟩,
                            ⟨some 42, Op.unOp UnOp.not 4 (Operand.tmp 41), none⟩])
                          (.cond (Operand.tmp 42)
                            (.seq
                              (.region [] false ([]) [
                                ⟨some 4, Op.assign (Operand.const (Value.bool false)), none⟩])
                              .ret)
                            .skip))
                        (.seq
                          (.seq
                            (.region [45, 46] false ([]) [
                              ⟨some 43, Op.move (Operand.tmp 8), none⟩,
                              ⟨some 44, Op.move (Operand.tmp 1), none⟩,
                              ⟨some 45, Op.call { callee := Callee.value (Operand.func 22), args := #[Operand.tmp 44], argTypes := #[22] }, none⟩,
                              ⟨some 46, Op.call { callee := Callee.value (Operand.func 24), args := #[Operand.tmp 43, Operand.tmp 45], argTypes := #[22, 22] }, none⟩,
                              ⟨some 47, Op.unOp UnOp.not 4 (Operand.tmp 46), none⟩])
                            (.cond (Operand.tmp 47)
                              (.seq
                                (.region [] false ([]) [
                                  ⟨some 4, Op.assign (Operand.const (Value.bool false)), none⟩])
                                .ret)
                              .skip))
                          (.seq
                            (.region [] false ([]) [
                              ⟨some 10, Op.assign (Operand.const (Value.int IntKind.i64 1)), none⟩])
                            (.seq
                              (.region [50] false ([]) [
                                ⟨some 48, Op.load 27 (Operand.tmp 7), none⟩,
                                ⟨some 49, Op.move (Operand.tmp 10), none⟩,
                                ⟨some 50, Op.call { callee := Callee.value (Operand.func 27), args := #[Operand.tmp 48, Operand.tmp 49], argTypes := #[27, 3] }, none⟩,
                                ⟨some 10, Op.assign (Operand.tmp 50), none⟩])
                              (.seq
                                (.region [53] false ([]) [
                                  ⟨some 51, Op.move (Operand.tmp 8), none⟩,
                                  ⟨some 52, Op.move (Operand.tmp 10), none⟩,
                                  ⟨some 53, Op.call { callee := Callee.value (Operand.func 28), args := #[Operand.tmp 51, Operand.tmp 52], argTypes := #[22, 3] }, none⟩,
                                  ⟨some 10, Op.assign (Operand.tmp 53), none⟩])
                                (.seq
                                  (.seq
                                    (.region [59] false ([]) [
                                      ⟨some 54, Op.move (Operand.tmp 10), none⟩,
                                      ⟨some 55, Op.binOp BinOp.lss 3 (Operand.tmp 54) (Operand.const (Value.int IntKind.i64 0)) 3, none⟩,
                                      ⟨some 56, Op.move (Operand.tmp 55), none⟩,
                                      ⟨some 57, Op.move (Operand.tmp 9), some (56, false)⟩,
                                      ⟨some 58, Op.move (Operand.tmp 6), some (56, false)⟩,
                                      ⟨some 59, Op.call { callee := Callee.value (Operand.func 24), args := #[Operand.tmp 57, Operand.tmp 58], argTypes := #[22, 22] }, some (56, false)⟩,
                                      ⟨some 60, Op.unOp UnOp.not 4 (Operand.tmp 59), some (56, false)⟩,
                                      ⟨some 61, Op.pick (Operand.tmp 56) (Operand.const (Value.bool true)) (Operand.tmp 60), none⟩])
                                    (.cond (Operand.tmp 61)
                                      (.seq
                                        (.region [] false ([]) [
                                          ⟨some 4, Op.assign (Operand.const (Value.bool false)), none⟩])
                                        .ret)
                                      .skip))
                                  (.seq
                                    (.region [] false ([]) [
                                      ⟨some 11, Op.assign (Operand.const (Value.int IntKind.i64 1)), none⟩])
                                    (.seq
                                      (.region [64] false ([]) [
                                        ⟨some 62, Op.move (Operand.tmp 9), none⟩,
                                        ⟨some 63, Op.move (Operand.tmp 11), none⟩,
                                        ⟨some 64, Op.call { callee := Callee.value (Operand.func 28), args := #[Operand.tmp 62, Operand.tmp 63], argTypes := #[22, 3] }, none⟩,
                                        ⟨some 11, Op.assign (Operand.tmp 64), none⟩])
                                      (.seq
                                        (.region [] false ([]) [
                                          ⟨some 12, Op.assign (Operand.const (Value.int IntKind.i64 1)), none⟩])
                                        (.seq
                                          (.region [67] false ([]) [
                                            ⟨some 65, Op.move (Operand.tmp 9), none⟩,
                                            ⟨some 66, Op.move (Operand.tmp 12), none⟩,
                                            ⟨some 67, Op.call { callee := Callee.value (Operand.func 29), args := #[Operand.tmp 65, Operand.tmp 66], argTypes := #[22, 3] }, none⟩,
                                            ⟨some 12, Op.assign (Operand.tmp 67), none⟩])
                                          (.seq
                                            (.seq
                                              (.region [] false ([]) [
                                                ⟨some 68, Op.move (Operand.tmp 12), none⟩,
                                                ⟨some 69, Op.binOp BinOp.lss 3 (Operand.tmp 68) (Operand.const (Value.int IntKind.i64 0)) 3, none⟩])
                                              (.cond (Operand.tmp 69)
                                                (.seq
                                                  (.region [] false ([]) [
                                                    ⟨some 4, Op.assign (Operand.const (Value.bool false)), none⟩])
                                                  .ret)
                                                .skip))
                                            (.seq
                                              (.seq
                                                (.region [] false ([]) [
                                                  ⟨some 70, Op.move (Operand.tmp 12), none⟩,
                                                  ⟨some 71, Op.move (Operand.tmp 11), none⟩,
                                                  ⟨some 72, Op.binOp BinOp.neq 3 (Operand.tmp 70) (Operand.tmp 71) 3, none⟩])
                                                (.cond (Operand.tmp 72)
                                                  (.seq
                                                    (.region [] false ([]) [
                                                      ⟨some 4, Op.assign (Operand.const (Value.bool false)), none⟩])
                                                    .ret)
                                                  .skip))
                                              (.seq
                                                (.region [74, 76, 77] false ([]) [
                                                  ⟨some 73, Op.load 24 (Operand.tmp 2), none⟩,
                                                  ⟨some 74, Op.call { callee := Callee.value (Operand.func 13), args := #[Operand.tmp 73], argTypes := #[24] }, none⟩,
                                                  ⟨some 75, Op.move (Operand.tmp 1), none⟩,
                                                  ⟨some 76, Op.call { callee := Callee.value (Operand.func 22), args := #[Operand.tmp 75], argTypes := #[22] }, none⟩,
                                                  ⟨some 77, Op.call { callee := Callee.value (Operand.func 31), args := #[Operand.tmp 74, Operand.tmp 76], argTypes := #[27, 22] }, none⟩,
                                                  ⟨some 13, Op.assign (Operand.tmp 77), none⟩])
                                                (.seq
                                                  (.seq
                                                    (.region [80] false ([]) [
                                                      ⟨some 78, Op.move (Operand.tmp 13), none⟩,
                                                      ⟨some 79, Op.move (Operand.tmp 6), none⟩,
                                                      ⟨some 80, Op.call { callee := Callee.value (Operand.func 24), args := #[Operand.tmp 78, Operand.tmp 79], argTypes := #[22, 22] }, none⟩,
                                                      ⟨some 81, Op.unOp UnOp.not 4 (Operand.tmp 80), none⟩])
                                                    (.cond (Operand.tmp 81)
                                                      (.seq
                                                        (.region [] false ([]) [
                                                          ⟨some 4, Op.assign (Operand.const (Value.bool false)), none⟩])
                                                        .ret)
                                                      .skip))
                                                  (.seq
                                                    (.region [] false ([]) [
                                                      ⟨some 4, Op.assign (Operand.const (Value.bool true)), none⟩])
                                                    .ret)))))))))))))))))))))))))
end Cal

set_option linter.unusedSimpArgs false
set_option linter.unusedVariables false
namespace Cal
open Go Go.Proofs
set_option maxRecDepth 100000
/-! ### lifting a walk -/
def nextV (g : Gr) (u e : Int) : Option Int := if 0 ≤ arcE g u e then some (rd g.to (arcE g u e)) else none
def liftTo (g : Gr) (w : List Int) : Nat → Option (List Int)
  | 0 => some [rd g.start (rd w 0)]
  | k + 1 => match liftTo g w k with
    | none => none
    | some l => match nextV g (rd l k) (rd w ((k : Int) + 1)) with
      | none => none
      | some v => some (l ++ [v])
structure LW (g : Gr) (w : List Int) : Prop where
  vg : VG g
  pos : 0 < w.length
  le : w.length ≤ 10000
  a : 0 ≤ rd w 0
  b : rd w 0 < g.start.length
noncomputable instance (g : Gr) (w : List Int) : Decidable (LW g w) := Classical.propDecidable _
theorem next_iff {g : Gr} (hg : VG g) {u v e : Int} (h0 : 0 ≤ u) (h1 : u < g.edgeOf.length) : (rd g.edgeOf v = e ∧ 0 ≤ arcW g u v) ↔ (0 ≤ arcE g u e ∧ rd g.to (arcE g u e) = v) := by
  constructor
  · rintro ⟨rfl, h⟩
    have e1 := arc_eq hg h0 h1 h
    have e2 := (arcW_found hg h0 h1 h).2.2
    rw [e1]
    exact ⟨h, e2⟩
  · rintro ⟨h, hv⟩
    have e1 := arc_back hg h0 h1 h hv
    have e2 := (arcE_found hg h0 h1 h).2.2
    rw [hv] at e2
    exact ⟨e2, e1⟩
theorem liftTo_len {g : Gr} {w : List Int} : ∀ {k : Nat} {l : List Int}, liftTo g w k = some l → l.length = k + 1
  | 0, l, h => by
    simp only [liftTo, Option.some.injEq] at h
    subst h
    rfl
  | k + 1, l, h => by
    simp only [liftTo] at h
    split at h
    · cases h
    · rename_i l' hl
      split at h
      · cases h
      · cases h
        simp [liftTo_len hl]
theorem liftTo_none {g : Gr} {w : List Int} {k : Nat} (h : liftTo g w k = none) : ∀ m, k ≤ m → liftTo g w m = none := by
  intro m hm
  induction m with
  | zero =>
    have : k = 0 := by omega
    subst this
    exact h
  | succ m ih =>
    rcases Nat.lt_or_ge m k with hk | hk
    · have : k = m + 1 := by omega
      rw [← this]
      exact h
    · simp only [liftTo, ih hk]
theorem rd_append_left {l : List Int} {v : Int} {i : Nat} (h : i < l.length) : rd (l ++ [v]) i = rd l i := by
  unfold rd
  simp [List.getD_eq_getElem?_getD, List.getElem?_append_left h]
theorem rd_append_last {l : List Int} {v : Int} {i : Nat} (h : i = l.length) : rd (l ++ [v]) i = v := by
  subst h
  unfold rd
  simp [List.getD_eq_getElem?_getD]
/-- The last vertex of a lifted walk. -/
theorem liftTo_last {g : Gr} (hg : VG g) {w : List Int} (a : 0 ≤ rd w 0) (b : rd w 0 < g.start.length) : ∀ {k : Nat} {l : List Int}, liftTo g w k = some l → 0 ≤ rd l k ∧ rd l k < g.edgeOf.length
  | 0, l, h => by
    simp only [liftTo, Option.some.injEq] at h
    subst h
    exact hg.startI a b
  | k + 1, l, h => by
    simp only [liftTo] at h
    split at h
    · cases h
    · rename_i l' hl
      split at h
      · cases h
      · rename_i v hv
        cases h
        have := liftTo_last hg a b hl
        rw [rd_append_last (by rw [liftTo_len hl])]
        unfold nextV at hv
        split at hv
        · rename_i h0
          cases hv
          have h1 := arcE_lt (e := rd w ((k : Int) + 1)) hg this.1 this.2
          have := hg.toI h0 h1.2
          exact ⟨this.1, this.2.1⟩
        · cases hv
noncomputable def liftR (g : Gr) (w : List Int) : List Int := if LW g w then (liftTo g w (w.length - 1)).getD [] else []
@[simp] theorem slice_ints (l : List Int) : sliceA (.sl 1) (.t (ints l)) (some 1) none = if 1 ≤ (l.length : Int) then some (.t (ints (l.drop 1))) else none := by
  have hz : szOK 1 (intRow l) = true := by simp [szOK, intRow]
  unfold sliceA ints
  have e : (l.map fun x => [T.v (Value.int .i64 x)]) = intRow l := rfl
  rw [e]
  by_cases h : 1 ≤ (l.length : Int)
  · rw [if_pos h]
    simp only [hz, intRow_length, Option.getD_some, Option.getD_none, true_and]
    rw [if_pos ⟨by omega, h, by omega⟩]
    simp only [window]
    have e2 : (intRow l).drop (1 : Int).toNat = intRow (l.drop 1) := by simp [intRow, List.map_drop]
    rw [e2]
    have e3 : ((l.length : Int) - 1).toNat = (l.drop 1).length := by simp
    rw [e3, take_intRow]
    rfl
  · rw [if_neg h]
    simp only [hz, intRow_length, Option.getD_some, Option.getD_none, true_and]
    rw [if_neg fun hh => h hh.2.1]
theorem rd_drop1 (l : List Int) (i : Nat) : rd (l.drop 1) i = rd l ((i : Int) + 1) := by
  unfold rd
  rw [show ((i : Int) + 1).toNat = i + 1 by omega]
  simp [List.getD_eq_getElem?_getD, Nat.add_comm]
/-- A next vertex, as the specification looks for it. -/
def NX (g : Gr) (u e : Int) (v : Nat) : Prop := rd g.edgeOf v = e ∧ 0 ≤ arcW g u v
theorem nx_none {g : Gr} (hg : VG g) {u e : Int} (h0 : 0 ≤ u) (h1 : u < g.edgeOf.length) (h : ∀ v < g.edgeOf.length, ¬ NX g u e v) : nextV g u e = none := by
  unfold nextV
  split
  · rename_i ha
    have b := arcE_lt (e := e) hg h0 h1
    have t := hg.toI ha b.2
    have := (next_iff hg h0 h1 (v := rd g.to (arcE g u e)) (e := e)).2 ⟨ha, rfl⟩
    refine absurd ?_ (h (rd g.to (arcE g u e)).toNat (by omega))
    unfold NX
    rw [Int.toNat_of_nonneg t.1]
    exact this
  · rfl
theorem nx_some {g : Gr} (hg : VG g) {u e : Int} (h0 : 0 ≤ u) (h1 : u < g.edgeOf.length) {v : Nat} (h : NX g u e v) : nextV g u e = some (v : Int) := by
  have := (next_iff hg h0 h1).1 h
  unfold nextV
  rw [if_pos this.1, this.2]
def LSt (id : Id) (l : List Int) (k : Nat) (s : St) : Prop := s.tm 5 = .row id 1 0 (k + 1 : Nat) ∧ s.ob id = some (.row 1 (intRow l))
/-- The code of spec.l4Lift. -/
def k54 : Code1 :=
  (.seq
    (.region [2] false ([]) [
      ⟨some 2, Op.box 27 (Operand.tmp 0), none⟩,
      ⟨some 4, Op.assign (Operand.const (Value.slice none 0 0)), none⟩])
    (.seq
      (.region [16] true ([]) [
        ⟨some 9, Op.fieldAddr 27 (Operand.tmp 2) 5, none⟩,
        ⟨some 10, Op.load 22 (Operand.tmp 9), none⟩,
        ⟨some 11, Op.move (Operand.tmp 1), none⟩,
        ⟨some 12, Op.indexAddr 22 (Operand.tmp 11) (Operand.const (Value.int IntKind.i64 0)), none⟩,
        ⟨some 13, Op.load 2 (Operand.tmp 12), none⟩,
        ⟨some 14, Op.indexAddr 22 (Operand.tmp 10) (Operand.tmp 13), none⟩,
        ⟨some 15, Op.load 2 (Operand.tmp 14), none⟩,
        ⟨some 16, Op.buildSlice 22 1 #[(0, Operand.tmp 15)], none⟩,
        ⟨some 5, Op.assign (Operand.tmp 16), none⟩])
      (.seq
        (.seq
          (.region [] false ([]) [
            ⟨some 6, Op.assign (Operand.const (Value.int IntKind.i64 1)), none⟩])
          (.block 0
            (.loop
              (.seq
                (.seq
                  (.region [] false ([]) [
                    ⟨some 17, Op.move (Operand.tmp 6), none⟩,
                    ⟨some 18, Op.move (Operand.tmp 1), none⟩,
                    ⟨some 19, Op.call { callee := Callee.builtin Builtin.len, args := #[Operand.tmp 18], argTypes := #[22] }, none⟩,
                    ⟨some 20, Op.binOp BinOp.lss 3 (Operand.tmp 17) (Operand.tmp 19) 3, none⟩])
                  (.cond (Operand.tmp 20)
                    .skip
                    (.exit 0)))
                (.seq
                  (.block 1
                    (.seq
                      (.region [] false ([]) [
                        ⟨some 7, Op.assign (Operand.const (Value.int IntKind.i64 (-1))), none⟩])
                      (.seq
                        (.seq
                          (.region [] false ([]) [
                            ⟨some 8, Op.assign (Operand.const (Value.int IntKind.i64 0)), none⟩])
                          (.block 2
                            (.loop
                              (.seq
                                (.seq
                                  (.region [] false ([]) [
                                    ⟨some 23, Op.move (Operand.tmp 8), none⟩,
                                    ⟨some 24, Op.fieldAddr 27 (Operand.tmp 2) 0, none⟩,
                                    ⟨some 25, Op.load 22 (Operand.tmp 24), none⟩,
                                    ⟨some 26, Op.call { callee := Callee.builtin Builtin.len, args := #[Operand.tmp 25], argTypes := #[22] }, none⟩,
                                    ⟨some 27, Op.binOp BinOp.lss 2 (Operand.tmp 23) (Operand.tmp 26) 2, none⟩])
                                  (.cond (Operand.tmp 27)
                                    .skip
                                    (.exit 2)))
                                (.seq
                                  (.block 3
                                    (.seq
                                      (.region [48] true ([]) [
                                        ⟨some 30, Op.fieldAddr 27 (Operand.tmp 2) 0, none⟩,
                                        ⟨some 31, Op.load 22 (Operand.tmp 30), none⟩,
                                        ⟨some 32, Op.move (Operand.tmp 8), none⟩,
                                        ⟨some 33, Op.indexAddr 22 (Operand.tmp 31) (Operand.tmp 32), none⟩,
                                        ⟨some 34, Op.load 2 (Operand.tmp 33), none⟩,
                                        ⟨some 35, Op.move (Operand.tmp 1), none⟩,
                                        ⟨some 36, Op.move (Operand.tmp 6), none⟩,
                                        ⟨some 37, Op.indexAddr 22 (Operand.tmp 35) (Operand.tmp 36), none⟩,
                                        ⟨some 38, Op.load 2 (Operand.tmp 37), none⟩,
                                        ⟨some 39, Op.binOp BinOp.eql 2 (Operand.tmp 34) (Operand.tmp 38) 2, none⟩,
                                        ⟨some 40, Op.move (Operand.tmp 39), none⟩,
                                        ⟨some 41, Op.load 27 (Operand.tmp 2), some (40, true)⟩,
                                        ⟨some 42, Op.move (Operand.tmp 5), some (40, true)⟩,
                                        ⟨some 43, Op.move (Operand.tmp 6), some (40, true)⟩,
                                        ⟨some 44, Op.binOp BinOp.sub 3 (Operand.tmp 43) (Operand.const (Value.int IntKind.i64 1)) 3, some (40, true)⟩,
                                        ⟨some 45, Op.indexAddr 22 (Operand.tmp 42) (Operand.tmp 44), some (40, true)⟩,
                                        ⟨some 46, Op.load 2 (Operand.tmp 45), some (40, true)⟩,
                                        ⟨some 47, Op.move (Operand.tmp 8), some (40, true)⟩,
                                        ⟨some 48, Op.call { callee := Callee.value (Operand.func 52), args := #[Operand.tmp 41, Operand.tmp 46, Operand.tmp 47], argTypes := #[27, 2, 2] }, some (40, true)⟩,
                                        ⟨some 49, Op.binOp BinOp.geq 2 (Operand.tmp 48) (Operand.const (Value.int IntKind.i64 0)) 2, some (40, true)⟩,
                                        ⟨some 50, Op.pick (Operand.tmp 40) (Operand.tmp 49) (Operand.const (Value.bool false)), none⟩])
                                      (.cond (Operand.tmp 50)
                                        (.region [] false ([]) [
                                          ⟨some 51, Op.move (Operand.tmp 8), none⟩,
                                          ⟨some 7, Op.assign (Operand.tmp 51), none⟩])
                                        .skip)))
                                  (.region [] false ([]) [
                                    ⟨some 28, Op.move (Operand.tmp 8), none⟩,
                                    ⟨some 29, Op.binOp BinOp.add 2 (Operand.tmp 28) (Operand.const (Value.int IntKind.i64 1)) 2, none⟩,
                                    ⟨some 8, Op.assign (Operand.tmp 29), none⟩]))))))
                        (.seq
                          (.seq
                            (.region [] false ([]) [
                              ⟨some 52, Op.move (Operand.tmp 7), none⟩,
                              ⟨some 53, Op.binOp BinOp.lss 2 (Operand.tmp 52) (Operand.const (Value.int IntKind.i64 0)) 2, none⟩])
                            (.cond (Operand.tmp 53)
                              (.seq
                                (.region [54] false ([]) [
                                  ⟨some 54, Op.buildSlice 22 0 #[], none⟩,
                                  ⟨some 4, Op.assign (Operand.tmp 54), none⟩])
                                .ret)
                              .skip))
                          (.region [57, 58] false ([]) [
                            ⟨some 55, Op.move (Operand.tmp 5), none⟩,
                            ⟨some 56, Op.move (Operand.tmp 7), none⟩,
                            ⟨some 57, Op.buildSlice 22 1 #[(0, Operand.tmp 56)], none⟩,
                            ⟨some 58, Op.call { callee := Callee.builtin Builtin.append, args := #[Operand.tmp 55, Operand.tmp 57], argTypes := #[22, 22] }, none⟩,
                            ⟨some 5, Op.assign (Operand.tmp 58), none⟩])))))
                  (.region [] false ([]) [
                    ⟨some 21, Op.move (Operand.tmp 6), none⟩,
                    ⟨some 22, Op.binOp BinOp.add 3 (Operand.tmp 21) (Operand.const (Value.int IntKind.i64 1)) 3, none⟩,
                    ⟨some 6, Op.assign (Operand.tmp 22), none⟩]))))))
        (.seq
          (.region [] false ([]) [
            ⟨some 59, Op.move (Operand.tmp 5), none⟩,
            ⟨some 4, Op.assign (Operand.tmp 59), none⟩])
          .ret))))
set_option maxHeartbeats 0 in
theorem l4LiftS (g : Gr) (w : List Int) (hL : LW g w) (h : sumG g ≤ 1048576) (hp : w.length ≤ 1048576) :
    CallsF Try.prog 54 [.agg (encG g), .val (ints w)] (.own 1 (intRow ((liftTo g w (w.length - 1)).getD []))) [] := by
  unfold sumG at h
  have hg := hL.vg
  have l1 := hg.l1
  have l2 := hg.l2
  have l3 := hg.l3
  have p1 := hL.pos
  have p2 := hL.le
  have a0 := hL.a
  have b0 := hL.b
  refine callsF_of_wp2 (fn := Try.f54) (k := k54) (fun _ => []) mixed (by kernel_rfl) rfl (by kernel_rfl) (by kernel_rfl) (by kernel_rfl) rfl (by simp [Try.f54]) (by simp [Arg.like]) ?_
  generalize hst : St.enter [.agg (encG g), .val (ints w)] = st0
  have t0 : st0.tm 0 = .agg ((encG g) |>.map .t) := by rw [← hst]; rfl
  have t1 : st0.tm 1 = .t (ints w) := by rw [← hst]; rfl
  clear hst
  unfold k54
  simp [encG] at t0
  repeat' (first
    | (refine wp2_seq fun K hK => ?_)
    | (refine wp1_seq fun K hK => ?_)
    | (refine M_cons fun K hK => ?_)
    | (refine hK _ ?_; clear hK K)
    | (clear hK K; refine hK _ ?_; clear hK K)
    | (clear hK K; clear hK K; refine hK _ ?_; clear hK K)
    | (clear hK K; clear hK K; clear hK K; refine hK _ ?_; clear hK K)
    | (refine hX _ ?_; clear hX hY X Y)
    | (refine hY _ ?_; clear hX hY X Y)
    | (refine wp2_block ?_)
    | (refine wp1_block ?_)
    | (refine wp2_region ?_)
    | (refine wp1_region ?_)
    | (refine wp2_cond fun X Y hX hY => ?_)
    | (refine wp1_cond fun X Y hX hY => ?_)
    | (refine condK_of (fun c => ?_) (fun c => ?_) <;> (try simp [-List.length_eq_zero_iff] at c))
    | (refine guard1_or (fun c => ?_) (fun c => ?_) <;> (have cc := c) <;> (try simp [-List.length_eq_zero_iff] at cc) <;> (try simp (disch := omega) [t0, t1, encG, c]))
    | (simp (disch := omega) [t0, t1, encG]))
  all_goals try (simp [t0, t1, encG, Back]; done)
  have hJ : ∀ s (id : Nat) (l : List Int), id = 16 ∨ id = 58 → LSt (id, 0) l (w.length - 1) s → liftTo g w (w.length - 1) = some l → K s := by
    rintro s id l hid ⟨s5, o5⟩ hl
    have e1 : l.length = w.length := by
      have := liftTo_len hl
      omega
    have e2 : w.length - 1 + 1 = w.length := by omega
    rcases hid with rfl | rfl
    · repeat' (first
        | (refine wp2_seq fun K hK => ?_)
        | (refine wp1_seq fun K hK => ?_)
        | (refine M_cons fun K hK => ?_)
        | (refine hK _ ?_; clear hK K)
        | (clear hK K; refine hK _ ?_; clear hK K)
        | (clear hK K; clear hK K; refine hK _ ?_; clear hK K)
        | (clear hK K; clear hK K; clear hK K; refine hK _ ?_; clear hK K)
        | (refine hX _ ?_; clear hX hY X Y)
        | (refine hY _ ?_; clear hX hY X Y)
        | (refine wp2_block ?_)
        | (refine wp1_block ?_)
        | (refine wp2_region ?_)
        | (refine wp1_region ?_)
        | (refine wp2_cond fun X Y hX hY => ?_)
        | (refine wp1_cond fun X Y hX hY => ?_)
        | (refine condK_of (fun c => ?_) (fun c => ?_) <;> (try simp [-List.length_eq_zero_iff] at c))
        | (refine guard1_or (fun c => ?_) (fun c => ?_) <;> (have cc := c) <;> (try simp [-List.length_eq_zero_iff] at cc) <;> (try simp (disch := omega) [s5, o5, hl, e1, e2, c]))
        | (simp (disch := omega) [s5, o5, hl, e1, e2]))
      all_goals try (simp [s5, o5, hl, e1, e2, Back]; done)
    · repeat' (first
        | (refine wp2_seq fun K hK => ?_)
        | (refine wp1_seq fun K hK => ?_)
        | (refine M_cons fun K hK => ?_)
        | (refine hK _ ?_; clear hK K)
        | (clear hK K; refine hK _ ?_; clear hK K)
        | (clear hK K; clear hK K; refine hK _ ?_; clear hK K)
        | (clear hK K; clear hK K; clear hK K; refine hK _ ?_; clear hK K)
        | (refine hX _ ?_; clear hX hY X Y)
        | (refine hY _ ?_; clear hX hY X Y)
        | (refine wp2_block ?_)
        | (refine wp1_block ?_)
        | (refine wp2_region ?_)
        | (refine wp1_region ?_)
        | (refine wp2_cond fun X Y hX hY => ?_)
        | (refine wp1_cond fun X Y hX hY => ?_)
        | (refine condK_of (fun c => ?_) (fun c => ?_) <;> (try simp [-List.length_eq_zero_iff] at c))
        | (refine guard1_or (fun c => ?_) (fun c => ?_) <;> (have cc := c) <;> (try simp [-List.length_eq_zero_iff] at cc) <;> (try simp (disch := omega) [s5, o5, hl, e1, e2, c]))
        | (simp (disch := omega) [s5, o5, hl, e1, e2]))
      all_goals try (simp [s5, o5, hl, e1, e2, Back]; done)
  clear hK
  refine wp2_loop (fun n s => ∃ (k : Nat) (id : Nat) (l : List Int), (id = 16 ∨ id = 58) ∧ GB g s ∧ s.tm 1 = .t (ints w) ∧ s.tm 6 = .t (.v (.int .i64 (k + 1 : Nat))) ∧ LSt (id, 0) l k s ∧ liftTo g w k = some l ∧ k < w.length ∧ n = w.length - k) w.length ?_ ?_
  · exact ⟨0, 16, [rd g.start (rd w 0)], by simp [GB, LSt, t1, liftTo]; exact hL.pos⟩
  · rintro n s ⟨k, id, l, hid, ⟨s2, o⟩, s1, s6, ⟨s5, o5⟩, hl, hk, rfl⟩ K' hK'
    have e1 := liftTo_len hl
    have e2 := liftTo_last hg a0 b0 hl
    repeat' (first
      | (refine wp2_seq fun K hK => ?_)
      | (refine wp1_seq fun K hK => ?_)
      | (refine M_cons fun K hK => ?_)
      | (refine hK _ ?_; clear hK K)
      | (clear hK K; refine hK _ ?_; clear hK K)
      | (clear hK K; clear hK K; refine hK _ ?_; clear hK K)
      | (clear hK K; clear hK K; clear hK K; refine hK _ ?_; clear hK K)
      | (refine hX _ ?_; clear hX hY X Y)
      | (refine hY _ ?_; clear hX hY X Y)
      | (refine wp2_block ?_)
      | (refine wp1_block ?_)
      | (refine wp2_region ?_)
      | (refine wp1_region ?_)
      | (refine wp2_cond fun X Y hX hY => ?_)
      | (refine wp1_cond fun X Y hX hY => ?_)
      | (refine condK_of (fun c => ?_) (fun c => ?_) <;> (try simp [-List.length_eq_zero_iff] at c))
      | (refine guard1_or (fun c => ?_) (fun c => ?_) <;> (have cc := c) <;> (try simp [-List.length_eq_zero_iff] at cc) <;> (try simp (disch := omega) [s2, o, s1, s6, s5, o5, c]))
      | (simp (disch := omega) [s2, o, s1, s6, s5, o5]))
    all_goals try (simp [s2, o, s1, s6, s5, o5, Back]; done)
    · have hI : ∀ s, GB g s → s.tm 1 = .t (ints w) → s.tm 6 = .t (.v (.int .i64 (k + 1 : Nat))) → LSt (id, 0) l k s → (nextV g (rd l k) (rd w ((k : Int) + 1)) = none ∧ s.tm 7 = .t (.v (.int .i64 (-1))) ∨ ∃ v : Nat, v < g.edgeOf.length ∧ nextV g (rd l k) (rd w ((k : Int) + 1)) = some (v : Int) ∧ s.tm 7 = .t (.v (.int .i64 v))) → K s := by
        rintro s ⟨s2, o⟩ s1 s6 ⟨s5, o5⟩ (⟨hn, s7⟩ | ⟨v, hv, hn, s7⟩)
        · have hz : liftTo g w (w.length - 1) = none := liftTo_none (k := k + 1) (by simp only [liftTo, hl, hn]) _ (by omega)
          repeat' (first
            | (refine wp2_seq fun K hK => ?_)
            | (refine wp1_seq fun K hK => ?_)
            | (refine M_cons fun K hK => ?_)
            | (refine hK _ ?_; clear hK K)
            | (clear hK K; refine hK _ ?_; clear hK K)
            | (clear hK K; clear hK K; refine hK _ ?_; clear hK K)
            | (clear hK K; clear hK K; clear hK K; refine hK _ ?_; clear hK K)
            | (refine hX _ ?_; clear hX hY X Y)
            | (refine hY _ ?_; clear hX hY X Y)
            | (refine wp2_block ?_)
            | (refine wp1_block ?_)
            | (refine wp2_region ?_)
            | (refine wp1_region ?_)
            | (refine wp2_cond fun X Y hX hY => ?_)
            | (refine wp1_cond fun X Y hX hY => ?_)
            | (refine condK_of (fun c => ?_) (fun c => ?_) <;> (try simp [-List.length_eq_zero_iff] at c))
            | (refine guard1_or (fun c => ?_) (fun c => ?_) <;> (have cc := c) <;> (try simp [-List.length_eq_zero_iff] at cc) <;> (try simp (disch := omega) [s2, o, s1, s6, s5, o5, s7, hz, c]))
            | (simp (disch := omega) [s2, o, s1, s6, s5, o5, s7, hz]))
          all_goals try (simp [s2, o, s1, s6, s5, o5, s7, hz, Back]; done)
        · have hz : liftTo g w (k + 1) = some (l ++ [(v : Int)]) := by simp only [liftTo, hl, hn]
          rcases hid with rfl | rfl
          · repeat' (first
              | (refine wp2_seq fun K hK => ?_)
              | (refine wp1_seq fun K hK => ?_)
              | (refine M_cons fun K hK => ?_)
              | (refine hK _ ?_; clear hK K)
              | (clear hK K; refine hK _ ?_; clear hK K)
              | (clear hK K; clear hK K; refine hK _ ?_; clear hK K)
              | (clear hK K; clear hK K; clear hK K; refine hK _ ?_; clear hK K)
              | (refine hX _ ?_; clear hX hY X Y)
              | (refine hY _ ?_; clear hX hY X Y)
              | (refine wp2_block ?_)
              | (refine wp1_block ?_)
              | (refine wp2_rename (mk := [57, 58]) 58 60058 (by decide) ?_)
              | (refine wp2_region ?_)
              | (refine wp1_region ?_)
              | (refine wp2_cond fun X Y hX hY => ?_)
              | (refine wp1_cond fun X Y hX hY => ?_)
              | (refine condK_of (fun c => ?_) (fun c => ?_) <;> (try simp [-List.length_eq_zero_iff] at c))
              | (refine guard1_or (fun c => ?_) (fun c => ?_) <;> (have cc := c) <;> (try simp [-List.length_eq_zero_iff] at cc) <;> (try simp (disch := omega) [s2, o, s1, s6, s5, o5, s7, e1, c]))
              | (simp (disch := omega) [s2, o, s1, s6, s5, o5, s7, e1]))
            all_goals try (simp [s2, o, s1, s6, s5, o5, s7, e1, Back]; done)
            · omega
            · refine hK' (w.length - (k + 1)) _ (by omega) ⟨k + 1, 58, _, .inr rfl, ?_, ?_, ?_, ?_, hz, by omega, rfl⟩
              all_goals simp [GB, LSt, s2, o, s1]
          · repeat' (first
              | (refine wp2_seq fun K hK => ?_)
              | (refine wp1_seq fun K hK => ?_)
              | (refine M_cons fun K hK => ?_)
              | (refine hK _ ?_; clear hK K)
              | (clear hK K; refine hK _ ?_; clear hK K)
              | (clear hK K; clear hK K; refine hK _ ?_; clear hK K)
              | (clear hK K; clear hK K; clear hK K; refine hK _ ?_; clear hK K)
              | (refine hX _ ?_; clear hX hY X Y)
              | (refine hY _ ?_; clear hX hY X Y)
              | (refine wp2_block ?_)
              | (refine wp1_block ?_)
              | (refine wp2_rename (mk := [57, 58]) 58 60058 (by decide) ?_)
              | (refine wp2_region ?_)
              | (refine wp1_region ?_)
              | (refine wp2_cond fun X Y hX hY => ?_)
              | (refine wp1_cond fun X Y hX hY => ?_)
              | (refine condK_of (fun c => ?_) (fun c => ?_) <;> (try simp [-List.length_eq_zero_iff] at c))
              | (refine guard1_or (fun c => ?_) (fun c => ?_) <;> (have cc := c) <;> (try simp [-List.length_eq_zero_iff] at cc) <;> (try simp (disch := omega) [s2, o, s1, s6, s5, o5, s7, e1, c]))
              | (simp (disch := omega) [s2, o, s1, s6, s5, o5, s7, e1]))
            all_goals try (simp [s2, o, s1, s6, s5, o5, s7, e1, Back]; done)
            · omega
            · refine hK' (w.length - (k + 1)) _ (by omega) ⟨k + 1, 58, _, .inr rfl, ?_, ?_, ?_, ?_, hz, by omega, rfl⟩
              all_goals simp [GB, LSt, s2, o, s1]
      clear hK hK' hJ
      have h48 : ¬ id = 48 := by rcases hid with rfl | rfl <;> decide
      refine wp2_loop (fun n s => ∃ j : Nat, GB g s ∧ s.tm 1 = .t (ints w) ∧ s.tm 6 = .t (.v (.int .i64 (k + 1 : Nat))) ∧ LSt (id, 0) l k s ∧ s.tm 8 = .t (.v (.int .i64 j)) ∧ ((∀ v < j, ¬ NX g (rd l k) (rd w ((k : Int) + 1)) v) ∧ s.tm 7 = .t (.v (.int .i64 (-1))) ∨ ∃ v : Nat, v < j ∧ NX g (rd l k) (rd w ((k : Int) + 1)) v ∧ s.tm 7 = .t (.v (.int .i64 v))) ∧ j ≤ g.edgeOf.length ∧ n = g.edgeOf.length - j) g.edgeOf.length ?_ ?_
      · exact ⟨0, by simp [GB, LSt, s2, o, s1, s6, s5, o5]⟩
      · rintro n s ⟨j, ⟨s2, o⟩, s1, s6, ⟨s5, o5⟩, s8, hc, hj, rfl⟩ K2 hK2
        repeat' (first
          | (refine wp2_seq fun K hK => ?_)
          | (refine wp1_seq fun K hK => ?_)
          | (refine M_cons fun K hK => ?_)
          | (refine hK _ ?_; clear hK K)
          | (clear hK K; refine hK _ ?_; clear hK K)
          | (clear hK K; clear hK K; refine hK _ ?_; clear hK K)
          | (clear hK K; clear hK K; clear hK K; refine hK _ ?_; clear hK K)
          | (refine hX _ ?_; clear hX hY X Y)
          | (refine hY _ ?_; clear hX hY X Y)
          | (refine wp2_block ?_)
          | (refine wp1_block ?_)
          | (refine wp2_region ?_)
          | (refine wp1_region ?_)
          | (refine wp2_cond fun X Y hX hY => ?_)
          | (refine wp1_cond fun X Y hX hY => ?_)
          | (refine condK_of (fun c => ?_) (fun c => ?_) <;> (try simp [-List.length_eq_zero_iff] at c))
          | (refine guard1_or (fun c => ?_) (fun c => ?_) <;> (have cc := c) <;> (try simp [-List.length_eq_zero_iff] at cc) <;> (try simp (disch := omega) [s2, o, s1, s6, s5, o5, s8, h48, e1, c]))
          | (refine callT_fl (arcW_c g _ _ hg ?_ ?_) (by simp [St.args, St.arg, s2, o, s1, s6, s5, o5, s8, h48, e1] <;> first | rfl | ((repeat' first | rfl | apply And.intro); done)) (by first | (simp [RV.flat, RV.flats, T.flat]; done) | ((repeat' first | exact flat_intRow _ | exact trivial | constructor | unfold RV.flat | unfold RV.flats); done)) (by simp [mutsOf]) ?_; omega; omega)
          | (simp (disch := omega) [s2, o, s1, s6, s5, o5, s8, h48, e1]))
        all_goals try (simp [s2, o, s1, s6, s5, o5, s8, h48, e1, Back]; done)
        all_goals first
          | omega
          | (refine hK2 (g.edgeOf.length - (j + 1)) _ (by omega) ⟨j + 1, ?_, ?_, ?_, ?_, ?_, ?_, by omega, rfl⟩
             all_goals (try simp [GB, LSt, s2, o, s1, s6, s5, o5, h48]; done)
             first
               | exact .inr ⟨j, by omega, ⟨cc, by omega⟩, by simp⟩
               | (rcases hc with ⟨h1, h2⟩ | ⟨v, h1, h2, h3⟩
                  · refine .inl ⟨fun v hv => ?_, by simp [h2]⟩
                    rcases Nat.lt_or_ge v j with hlt | hge
                    · exact h1 v hlt
                    · have : v = j := by omega
                      subst this
                      intro hn
                      unfold NX at hn
                      omega
                  · exact .inr ⟨v, by omega, h2, by simp [h3]⟩)
               )
          | (have hjl : j = g.edgeOf.length := by omega
             refine hI _ ?_ ?_ ?_ ?_ ?_
             all_goals (try simp [GB, LSt, s2, o, s1, s6, s5, o5, h48]; done)
             subst hjl
             rcases hc with ⟨h1, h2⟩ | ⟨v, h1, h2, h3⟩
             · exact .inl ⟨nx_none hg e2.1 e2.2 h1, by simp [h2]⟩
             · exact .inr ⟨v, h1, nx_some hg e2.1 e2.2 h2, by simp [h3]⟩)
    · have hkw : w.length - 1 = k := by omega
      refine hJ _ id l hid ?_ ?_
      · rw [hkw]
        simp [LSt, s5, o5]
      · rw [hkw]
        exact hl
end Cal

set_option linter.unusedSimpArgs false
set_option linter.unusedVariables false
namespace Cal
open Go Go.Proofs
set_option maxRecDepth 100000
theorem liftR_yes {g : Gr} {w : List Int} (h : LW g w) : liftR g w = (liftTo g w (w.length - 1)).getD [] := by
  unfold liftR
  rw [if_pos h]
theorem liftR_no {g : Gr} {w : List Int} (h : ¬ LW g w) : liftR g w = [] := by
  unfold liftR
  rw [if_neg h]
/-- The code of spec.LiftWalk. -/
def k25 : Code1 :=
  (.seq
    (.region [2] false ([]) [
      ⟨some 2, Op.box 27 (Operand.tmp 0), none⟩,
      ⟨some 4, Op.assign (Operand.const (Value.slice none 0 0)), none⟩])
    (.seq
      (.seq
        (.region [6] true ([]) [
          ⟨some 5, Op.load 27 (Operand.tmp 2), none⟩,
          ⟨some 6, Op.call { callee := Callee.value (Operand.func 12), args := #[Operand.tmp 5], argTypes := #[27] }, none⟩,
          ⟨some 7, Op.unOp UnOp.not 4 (Operand.tmp 6), none⟩,
          ⟨some 8, Op.move (Operand.tmp 7), none⟩,
          ⟨some 9, Op.move (Operand.tmp 1), some (8, false)⟩,
          ⟨some 10, Op.call { callee := Callee.builtin Builtin.len, args := #[Operand.tmp 9], argTypes := #[22] }, some (8, false)⟩,
          ⟨some 11, Op.binOp BinOp.eql 3 (Operand.tmp 10) (Operand.const (Value.int IntKind.i64 0)) 3, some (8, false)⟩,
          ⟨some 12, Op.pick (Operand.tmp 8) (Operand.const (Value.bool true)) (Operand.tmp 11), none⟩,
          ⟨some 13, Op.move (Operand.tmp 12), none⟩,
          ⟨some 14, Op.move (Operand.tmp 1), some (13, false)⟩,
          ⟨some 15, Op.call { callee := Callee.builtin Builtin.len, args := #[Operand.tmp 14], argTypes := #[22] }, some (13, false)⟩,
          ⟨some 16, Op.binOp BinOp.gtr 3 (Operand.tmp 15) (Operand.const (Value.int IntKind.i64 10000)) 3, some (13, false)⟩,
          ⟨some 17, Op.pick (Operand.tmp 13) (Operand.const (Value.bool true)) (Operand.tmp 16), none⟩,
          ⟨some 18, Op.move (Operand.tmp 17), none⟩,
          ⟨some 19, Op.move (Operand.tmp 1), some (18, false)⟩,
          ⟨some 20, Op.indexAddr 22 (Operand.tmp 19) (Operand.const (Value.int IntKind.i64 0)), some (18, false)⟩,
          ⟨some 21, Op.load 2 (Operand.tmp 20), some (18, false)⟩,
          ⟨some 22, Op.binOp BinOp.lss 2 (Operand.tmp 21) (Operand.const (Value.int IntKind.i64 0)) 2, some (18, false)⟩,
          ⟨some 23, Op.pick (Operand.tmp 18) (Operand.const (Value.bool true)) (Operand.tmp 22), none⟩,
          ⟨some 24, Op.move (Operand.tmp 23), none⟩,
          ⟨some 25, Op.move (Operand.tmp 1), some (24, false)⟩,
          ⟨some 26, Op.indexAddr 22 (Operand.tmp 25) (Operand.const (Value.int IntKind.i64 0)), some (24, false)⟩,
          ⟨some 27, Op.load 2 (Operand.tmp 26), some (24, false)⟩,
          ⟨some 28, Op.fieldAddr 27 (Operand.tmp 2) 5, some (24, false)⟩,
          ⟨some 29, Op.load 22 (Operand.tmp 28), some (24, false)⟩,
          ⟨some 30, Op.call { callee := Callee.builtin Builtin.len, args := #[Operand.tmp 29], argTypes := #[22] }, some (24, false)⟩,
          ⟨some 31, Op.binOp BinOp.geq 2 (Operand.tmp 27) (Operand.tmp 30) 2, some (24, false)⟩,
          ⟨some 32, Op.pick (Operand.tmp 24) (Operand.const (Value.bool true)) (Operand.tmp 31), none⟩])
        (.cond (Operand.tmp 32)
          (.seq
            (.region [33] false ([]) [
              ⟨some 33, Op.buildSlice 22 0 #[], none⟩,
              ⟨some 4, Op.assign (Operand.tmp 33), none⟩])
            .ret)
          .skip))
      (.seq
        (.region [36] false ([]) [
          ⟨some 34, Op.load 27 (Operand.tmp 2), none⟩,
          ⟨some 35, Op.move (Operand.tmp 1), none⟩,
          ⟨some 36, Op.call { callee := Callee.value (Operand.func 54), args := #[Operand.tmp 34, Operand.tmp 35], argTypes := #[27, 22] }, none⟩,
          ⟨some 4, Op.assign (Operand.tmp 36), none⟩])
        .ret)))
set_option maxHeartbeats 0 in
theorem liftWalkS_y {g : Gr} {w : List Int} (hL : LW g w) (h : sumG g ≤ 1048576) (hp : w.length ≤ 1048576) : CallsF Try.prog 25 [.agg (encG g), .val (ints w)] (.own 1 (intRow ((liftTo g w (w.length - 1)).getD []))) [] := by
  have h2 := h
  unfold sumG at h2
  refine callsF_of_wp1 (fn := Try.f25) (k := k25) (fun _ => []) mixed (by kernel_rfl) rfl (by kernel_rfl) (by kernel_rfl) (by kernel_rfl) rfl (by simp [Try.f25]) (by simp [Arg.like]) ?_
  generalize hst : St.enter [.agg (encG g), .val (ints w)] = st0
  have t0 : st0.tm 0 = .agg ((encG g) |>.map .t) := by rw [← hst]; rfl
  have t1 : st0.tm 1 = .t (ints w) := by rw [← hst]; rfl
  clear hst
  unfold k25
  simp [encG] at t0
  have hg := hL.vg
  have p1 := hL.pos
  have p2 := hL.le
  have a0 := hL.a
  have b0 := hL.b
  repeat' (first
    | (refine wp2_seq fun K hK => ?_)
    | (refine wp1_seq fun K hK => ?_)
    | (refine M_cons fun K hK => ?_)
    | (refine hK _ ?_; clear hK K)
    | (clear hK K; refine hK _ ?_; clear hK K)
    | (clear hK K; clear hK K; refine hK _ ?_; clear hK K)
    | (clear hK K; clear hK K; clear hK K; refine hK _ ?_; clear hK K)
    | (refine hX _ ?_; clear hX hY X Y)
    | (refine hY _ ?_; clear hX hY X Y)
    | (refine wp2_block ?_)
    | (refine wp1_block ?_)
    | (refine wp2_region ?_)
    | (refine wp1_region ?_)
    | (refine wp2_cond fun X Y hX hY => ?_)
    | (refine wp1_cond fun X Y hX hY => ?_)
    | (refine condK_of (fun c => ?_) (fun c => ?_) <;> (try simp [-List.length_eq_zero_iff] at c))
    | (refine guard1_or (fun c => ?_) (fun c => ?_) <;> (have cc := c) <;> (try simp [-List.length_eq_zero_iff] at cc) <;> (try simp (disch := omega) [t0, t1, hg, encG, c]))
    | (refine callT_fl (vgS g ?_ ?_ ?_ ?_ ?_ ?_ ?_) (by simp [St.args, St.arg, t0, t1, hg, encG] <;> first | rfl | ((repeat' first | rfl | apply And.intro); done)) (by first | (simp [RV.flat, RV.flats, T.flat]; done) | ((repeat' first | exact flat_intRow _ | exact trivial | constructor | unfold RV.flat | unfold RV.flats); done)) (by simp [mutsOf]) ?_; omega; omega; omega; omega; omega; omega; omega)
    | (refine callT_fl (l4LiftS g w hL ?_ ?_) (by simp [St.args, St.arg, t0, t1, hg, encG] <;> first | rfl | ((repeat' first | rfl | apply And.intro); done)) (by first | (simp [RV.flat, RV.flats, T.flat]; done) | ((repeat' first | exact flat_intRow _ | exact trivial | constructor | unfold RV.flat | unfold RV.flats); done)) (by simp [mutsOf]) ?_; omega; omega)
    | (simp (disch := omega) [t0, t1, hg, encG]))
  all_goals try (simp [t0, t1, hg, encG, Back]; done)
  all_goals omega
set_option maxHeartbeats 0 in
theorem liftWalkS_n {g : Gr} {w : List Int} (hL : ¬ LW g w) (h : sumG g ≤ 1048576) (hp : w.length ≤ 1048576) : CallsF Try.prog 25 [.agg (encG g), .val (ints w)] (.own 1 (intRow [])) [] := by
  have h2 := h
  unfold sumG at h2
  refine callsF_of_wp1 (fn := Try.f25) (k := k25) (fun _ => []) mixed (by kernel_rfl) rfl (by kernel_rfl) (by kernel_rfl) (by kernel_rfl) rfl (by simp [Try.f25]) (by simp [Arg.like]) ?_
  generalize hst : St.enter [.agg (encG g), .val (ints w)] = st0
  have t0 : st0.tm 0 = .agg ((encG g) |>.map .t) := by rw [← hst]; rfl
  have t1 : st0.tm 1 = .t (ints w) := by rw [← hst]; rfl
  clear hst
  unfold k25
  simp [encG] at t0
  have hx : VG g → 0 < w.length → w.length ≤ 10000 → 0 ≤ rd w 0 → ¬ rd w 0 < g.start.length := fun a b c d e => hL ⟨a, b, c, d, e⟩
  by_cases hg : VG g
  · have hx := hx hg
    repeat' (first
      | (refine wp2_seq fun K hK => ?_)
      | (refine wp1_seq fun K hK => ?_)
      | (refine M_cons fun K hK => ?_)
      | (refine hK _ ?_; clear hK K)
      | (clear hK K; refine hK _ ?_; clear hK K)
      | (clear hK K; clear hK K; refine hK _ ?_; clear hK K)
      | (clear hK K; clear hK K; clear hK K; refine hK _ ?_; clear hK K)
      | (refine hX _ ?_; clear hX hY X Y)
      | (refine hY _ ?_; clear hX hY X Y)
      | (refine wp2_block ?_)
      | (refine wp1_block ?_)
      | (refine wp2_region ?_)
      | (refine wp1_region ?_)
      | (refine wp2_cond fun X Y hX hY => ?_)
      | (refine wp1_cond fun X Y hX hY => ?_)
      | (refine condK_of (fun c => ?_) (fun c => ?_) <;> (try simp [-List.length_eq_zero_iff] at c))
      | (refine guard1_or (fun c => ?_) (fun c => ?_) <;> (have cc := c) <;> (try simp [-List.length_eq_zero_iff] at cc) <;> (try simp (disch := omega) [t0, t1, hg, encG, c]))
      | (refine callT_fl (vgS g ?_ ?_ ?_ ?_ ?_ ?_ ?_) (by simp [St.args, St.arg, t0, t1, hg, encG] <;> first | rfl | ((repeat' first | rfl | apply And.intro); done)) (by first | (simp [RV.flat, RV.flats, T.flat]; done) | ((repeat' first | exact flat_intRow _ | exact trivial | constructor | unfold RV.flat | unfold RV.flats); done)) (by simp [mutsOf]) ?_; omega; omega; omega; omega; omega; omega; omega)
      | (simp (disch := omega) [t0, t1, hg, encG]))
    all_goals try (simp [t0, t1, hg, encG, Back]; done)
    all_goals omega
  · repeat' (first
      | (refine wp2_seq fun K hK => ?_)
      | (refine wp1_seq fun K hK => ?_)
      | (refine M_cons fun K hK => ?_)
      | (refine hK _ ?_; clear hK K)
      | (clear hK K; refine hK _ ?_; clear hK K)
      | (clear hK K; clear hK K; refine hK _ ?_; clear hK K)
      | (clear hK K; clear hK K; clear hK K; refine hK _ ?_; clear hK K)
      | (refine hX _ ?_; clear hX hY X Y)
      | (refine hY _ ?_; clear hX hY X Y)
      | (refine wp2_block ?_)
      | (refine wp1_block ?_)
      | (refine wp2_region ?_)
      | (refine wp1_region ?_)
      | (refine wp2_cond fun X Y hX hY => ?_)
      | (refine wp1_cond fun X Y hX hY => ?_)
      | (refine condK_of (fun c => ?_) (fun c => ?_) <;> (try simp [-List.length_eq_zero_iff] at c))
      | (refine guard1_or (fun c => ?_) (fun c => ?_) <;> (have cc := c) <;> (try simp [-List.length_eq_zero_iff] at cc) <;> (try simp (disch := omega) [t0, t1, hg, encG, c]))
      | (refine callT_fl (vgS g ?_ ?_ ?_ ?_ ?_ ?_ ?_) (by simp [St.args, St.arg, t0, t1, hg, encG] <;> first | rfl | ((repeat' first | rfl | apply And.intro); done)) (by first | (simp [RV.flat, RV.flats, T.flat]; done) | ((repeat' first | exact flat_intRow _ | exact trivial | constructor | unfold RV.flat | unfold RV.flats); done)) (by simp [mutsOf]) ?_; omega; omega; omega; omega; omega; omega; omega)
      | (simp (disch := omega) [t0, t1, hg, encG]))
    all_goals try (simp [t0, t1, hg, encG, Back]; done)
    all_goals omega
end Cal

set_option linter.unusedSimpArgs false
set_option linter.unusedVariables false
namespace Cal
open Go Go.Proofs
set_option maxRecDepth 100000
def liftIR (g : Gr) (w : List Int) : RV := match liftTo g w (w.length - 1) with
  | some l => .own 1 (intRow l)
  | none => .t (.v (.slice none 0 0))
theorem liftIR_y {g : Gr} {w l : List Int} (h : liftTo g w (w.length - 1) = some l) : liftIR g w = .own 1 (intRow l) := by
  unfold liftIR
  rw [h]
theorem liftIR_n {g : Gr} {w : List Int} (h : liftTo g w (w.length - 1) = none) : liftIR g w = .t (.v (.slice none 0 0)) := by
  unfold liftIR
  rw [h]
theorem nextV_y {g : Gr} {u e : Int} (h : 0 ≤ arcE g u e) : nextV g u e = some (rd g.to (arcE g u e)) := by
  unfold nextV
  rw [if_pos h]
theorem nextV_n {g : Gr} {u e : Int} (h : arcE g u e < 0) : nextV g u e = none := by
  unfold nextV
  rw [if_neg (by omega)]
@[simp] theorem sliceO_from (k : TK) (x : AV) (a : Int) : sliceO k x (some (some a)) none = (sliceA k x (some a) none).map fun v => (v, []) := rfl
/-- The code of impl.LiftWalk. -/
def k26 : Code1 :=
  (.seq
    (.region [2] false ([]) [
      ⟨some 2, Op.box 27 (Operand.tmp 0), none⟩,
      ⟨some 4, Op.assign (Operand.const (Value.slice none 0 0)), none⟩])
    (.seq
      (.seq
        (.region [10] true ([]) [
          ⟨some 9, Op.load 27 (Operand.tmp 2), none⟩,
          ⟨some 10, Op.call { callee := Callee.value (Operand.func 14), args := #[Operand.tmp 9], argTypes := #[27] }, none⟩,
          ⟨some 11, Op.unOp UnOp.not 4 (Operand.tmp 10), none⟩,
          ⟨some 12, Op.move (Operand.tmp 11), none⟩,
          ⟨some 13, Op.move (Operand.tmp 1), some (12, false)⟩,
          ⟨some 14, Op.call { callee := Callee.builtin Builtin.len, args := #[Operand.tmp 13], argTypes := #[22] }, some (12, false)⟩,
          ⟨some 15, Op.binOp BinOp.eql 3 (Operand.tmp 14) (Operand.const (Value.int IntKind.i64 0)) 3, some (12, false)⟩,
          ⟨some 16, Op.pick (Operand.tmp 12) (Operand.const (Value.bool true)) (Operand.tmp 15), none⟩,
          ⟨some 17, Op.move (Operand.tmp 16), none⟩,
          ⟨some 18, Op.move (Operand.tmp 1), some (17, false)⟩,
          ⟨some 19, Op.call { callee := Callee.builtin Builtin.len, args := #[Operand.tmp 18], argTypes := #[22] }, some (17, false)⟩,
          ⟨some 20, Op.binOp BinOp.gtr 3 (Operand.tmp 19) (Operand.const (Value.int IntKind.i64 10000)) 3, some (17, false)⟩,
          ⟨some 21, Op.pick (Operand.tmp 17) (Operand.const (Value.bool true)) (Operand.tmp 20), none⟩,
          ⟨some 22, Op.move (Operand.tmp 21), none⟩,
          ⟨some 23, Op.move (Operand.tmp 1), some (22, false)⟩,
          ⟨some 24, Op.indexAddr 22 (Operand.tmp 23) (Operand.const (Value.int IntKind.i64 0)), some (22, false)⟩,
          ⟨some 25, Op.load 2 (Operand.tmp 24), some (22, false)⟩,
          ⟨some 26, Op.binOp BinOp.lss 2 (Operand.tmp 25) (Operand.const (Value.int IntKind.i64 0)) 2, some (22, false)⟩,
          ⟨some 27, Op.pick (Operand.tmp 22) (Operand.const (Value.bool true)) (Operand.tmp 26), none⟩,
          ⟨some 28, Op.move (Operand.tmp 27), none⟩,
          ⟨some 29, Op.move (Operand.tmp 1), some (28, false)⟩,
          ⟨some 30, Op.indexAddr 22 (Operand.tmp 29) (Operand.const (Value.int IntKind.i64 0)), some (28, false)⟩,
          ⟨some 31, Op.load 2 (Operand.tmp 30), some (28, false)⟩,
          ⟨some 32, Op.fieldAddr 27 (Operand.tmp 2) 5, some (28, false)⟩,
          ⟨some 33, Op.load 22 (Operand.tmp 32), some (28, false)⟩,
          ⟨some 34, Op.call { callee := Callee.builtin Builtin.len, args := #[Operand.tmp 33], argTypes := #[22] }, some (28, false)⟩,
          ⟨some 35, Op.binOp BinOp.geq 2 (Operand.tmp 31) (Operand.tmp 34) 2, some (28, false)⟩,
          ⟨some 36, Op.pick (Operand.tmp 28) (Operand.const (Value.bool true)) (Operand.tmp 35), none⟩])
        (.cond (Operand.tmp 36)
          (.seq
            (.region [] false ([]) [
              ⟨some 4, Op.assign (Operand.const (Value.slice none 0 0)), none⟩])
            .ret)
          .skip))
      (.seq
        (.region [44] true ([]) [
          ⟨some 37, Op.fieldAddr 27 (Operand.tmp 2) 5, none⟩,
          ⟨some 38, Op.load 22 (Operand.tmp 37), none⟩,
          ⟨some 39, Op.move (Operand.tmp 1), none⟩,
          ⟨some 40, Op.indexAddr 22 (Operand.tmp 39) (Operand.const (Value.int IntKind.i64 0)), none⟩,
          ⟨some 41, Op.load 2 (Operand.tmp 40), none⟩,
          ⟨some 42, Op.indexAddr 22 (Operand.tmp 38) (Operand.tmp 41), none⟩,
          ⟨some 43, Op.load 2 (Operand.tmp 42), none⟩,
          ⟨some 44, Op.buildSlice 22 1 #[(0, Operand.tmp 43)], none⟩,
          ⟨some 5, Op.assign (Operand.tmp 44), none⟩])
        (.seq
          (.seq
            (.region [] false ([]) [
              ⟨some 45, Op.move (Operand.tmp 1), none⟩,
              ⟨some 46, Op.slice 22 (Operand.tmp 45) (some (Operand.const (Value.int IntKind.i64 1))) none none, none⟩,
              ⟨some 47, Op.call { callee := Callee.builtin Builtin.len, args := #[Operand.tmp 46], argTypes := #[22] }, none⟩,
              ⟨some 48, Op.move (Operand.const (Value.int IntKind.i64 0)), none⟩])
            (.block 0
              (.loop
                (.seq
                  (.region [] false ([]) [
                    ⟨some 49, Op.binOp BinOp.lss 3 (Operand.tmp 48) (Operand.tmp 47) 3, none⟩])
                  (.seq
                    (.cond (Operand.tmp 49)
                      .skip
                      (.exit 0))
                    (.seq
                      (.block 1
                        (.seq
                          (.region [] false ([]) [
                            ⟨some 50, Op.indexAddr 22 (Operand.tmp 46) (Operand.tmp 48), none⟩,
                            ⟨some 51, Op.load 2 (Operand.tmp 50), none⟩,
                            ⟨some 7, Op.assign (Operand.tmp 51), none⟩])
                          (.seq
                            (.region [60] true ([]) [
                              ⟨some 52, Op.load 27 (Operand.tmp 2), none⟩,
                              ⟨some 53, Op.move (Operand.tmp 5), none⟩,
                              ⟨some 54, Op.move (Operand.tmp 5), none⟩,
                              ⟨some 55, Op.call { callee := Callee.builtin Builtin.len, args := #[Operand.tmp 54], argTypes := #[22] }, none⟩,
                              ⟨some 56, Op.binOp BinOp.sub 3 (Operand.tmp 55) (Operand.const (Value.int IntKind.i64 1)) 3, none⟩,
                              ⟨some 57, Op.indexAddr 22 (Operand.tmp 53) (Operand.tmp 56), none⟩,
                              ⟨some 58, Op.load 2 (Operand.tmp 57), none⟩,
                              ⟨some 59, Op.move (Operand.tmp 7), none⟩,
                              ⟨some 60, Op.call { callee := Callee.value (Operand.func 55), args := #[Operand.tmp 52, Operand.tmp 58, Operand.tmp 59], argTypes := #[27, 2, 2] }, none⟩,
                              ⟨some 8, Op.assign (Operand.tmp 60), none⟩])
                            (.seq
                              (.seq
                                (.region [] false ([]) [
                                  ⟨some 61, Op.move (Operand.tmp 8), none⟩,
                                  ⟨some 62, Op.binOp BinOp.lss 2 (Operand.tmp 61) (Operand.const (Value.int IntKind.i64 0)) 2, none⟩])
                                (.cond (Operand.tmp 62)
                                  (.seq
                                    (.region [] false ([]) [
                                      ⟨some 4, Op.assign (Operand.const (Value.slice none 0 0)), none⟩])
                                    .ret)
                                  .skip))
                              (.region [69, 70] false ([]) [
                                ⟨some 63, Op.move (Operand.tmp 5), none⟩,
                                ⟨some 64, Op.fieldAddr 27 (Operand.tmp 2) 3, none⟩,
                                ⟨some 65, Op.load 22 (Operand.tmp 64), none⟩,
                                ⟨some 66, Op.move (Operand.tmp 8), none⟩,
                                ⟨some 67, Op.indexAddr 22 (Operand.tmp 65) (Operand.tmp 66), none⟩,
                                ⟨some 68, Op.load 2 (Operand.tmp 67), none⟩,
                                ⟨some 69, Op.buildSlice 22 1 #[(0, Operand.tmp 68)], none⟩,
                                ⟨some 70, Op.call { callee := Callee.builtin Builtin.append, args := #[Operand.tmp 63, Operand.tmp 69], argTypes := #[22, 22] }, none⟩,
                                ⟨some 5, Op.assign (Operand.tmp 70), none⟩])))))
                      (.region [] false ([]) [
                        ⟨some 71, Op.binOp BinOp.add 3 (Operand.tmp 48) (Operand.const (Value.int IntKind.i64 1)) 3, none⟩,
                        ⟨some 48, Op.move (Operand.tmp 71), none⟩])))))))
          (.seq
            (.region [] false ([]) [
              ⟨some 72, Op.move (Operand.tmp 5), none⟩,
              ⟨some 4, Op.assign (Operand.tmp 72), none⟩])
            .ret)))))
set_option maxHeartbeats 0 in
theorem liftI_L {g : Gr} {w : List Int} (hL : LW g w) (h : sumG g ≤ 1048576) (hp : w.length ≤ 1048576) : CallsF Try.prog 26 [.agg (encG g), .val (ints w)] (liftIR g w) [] := by
  have h2 := h
  unfold sumG at h2
  refine callsF_of_wp2 (fn := Try.f26) (k := k26) (fun _ => []) mixed (by kernel_rfl) rfl (by kernel_rfl) (by kernel_rfl) (by kernel_rfl) rfl (by simp [Try.f26]) (by simp [Arg.like]) ?_
  generalize hst : St.enter [.agg (encG g), .val (ints w)] = st0
  have t0 : st0.tm 0 = .agg ((encG g) |>.map .t) := by rw [← hst]; rfl
  have t1 : st0.tm 1 = .t (ints w) := by rw [← hst]; rfl
  clear hst
  unfold k26
  simp [encG] at t0
  have hg := hL.vg
  have p1 := hL.pos
  have p2 := hL.le
  have a0 := hL.a
  have b0 := hL.b
  have p3 : 1 ≤ (w.length : Int) := by omega
  repeat' (first
    | (refine wp2_seq fun K hK => ?_)
    | (refine wp1_seq fun K hK => ?_)
    | (refine M_cons fun K hK => ?_)
    | (refine hK _ ?_; clear hK K)
    | (clear hK K; refine hK _ ?_; clear hK K)
    | (clear hK K; clear hK K; refine hK _ ?_; clear hK K)
    | (clear hK K; clear hK K; clear hK K; refine hK _ ?_; clear hK K)
    | (refine hX _ ?_; clear hX hY X Y)
    | (refine hY _ ?_; clear hX hY X Y)
    | (refine wp2_block ?_)
    | (refine wp1_block ?_)
    | (refine wp2_region ?_)
    | (refine wp1_region ?_)
    | (refine wp2_cond fun X Y hX hY => ?_)
    | (refine wp1_cond fun X Y hX hY => ?_)
    | (refine condK_of (fun c => ?_) (fun c => ?_) <;> (try simp [-List.length_eq_zero_iff] at c))
    | (refine guard1_or (fun c => ?_) (fun c => ?_) <;> (have cc := c) <;> (try simp [-List.length_eq_zero_iff] at cc) <;> (try simp (disch := omega) [t0, t1, hg, encG, p3, c]))
    | (refine callT_fl (vgI g ?_ ?_ ?_ ?_ ?_ ?_ ?_) (by simp [St.args, St.arg, t0, t1, hg, encG, p3] <;> first | rfl | ((repeat' first | rfl | apply And.intro); done)) (by first | (simp [RV.flat, RV.flats, T.flat]; done) | ((repeat' first | exact flat_intRow _ | exact trivial | constructor | unfold RV.flat | unfold RV.flats); done)) (by simp [mutsOf]) ?_; omega; omega; omega; omega; omega; omega; omega)
    | (simp (disch := omega) [t0, t1, hg, encG, p3]))
  all_goals try (simp [t0, t1, hg, encG, p3, Back]; done)
  all_goals first | omega | skip
  have hJ : ∀ s (id : Nat) (l : List Int), id = 44 ∨ id = 70 → LSt (id, 0) l (w.length - 1) s → liftTo g w (w.length - 1) = some l → K s := by
    rintro s id l hid ⟨s5, o5⟩ hl
    have e1 : l.length = w.length := by
      have := liftTo_len hl
      omega
    have e2 : w.length - 1 + 1 = w.length := by omega
    have e3 := liftIR_y hl
    rcases hid with rfl | rfl
    · repeat' (first
        | (refine wp2_seq fun K hK => ?_)
        | (refine wp1_seq fun K hK => ?_)
        | (refine M_cons fun K hK => ?_)
        | (refine hK _ ?_; clear hK K)
        | (clear hK K; refine hK _ ?_; clear hK K)
        | (clear hK K; clear hK K; refine hK _ ?_; clear hK K)
        | (clear hK K; clear hK K; clear hK K; refine hK _ ?_; clear hK K)
        | (refine hX _ ?_; clear hX hY X Y)
        | (refine hY _ ?_; clear hX hY X Y)
        | (refine wp2_block ?_)
        | (refine wp1_block ?_)
        | (refine wp2_region ?_)
        | (refine wp1_region ?_)
        | (refine wp2_cond fun X Y hX hY => ?_)
        | (refine wp1_cond fun X Y hX hY => ?_)
        | (refine condK_of (fun c => ?_) (fun c => ?_) <;> (try simp [-List.length_eq_zero_iff] at c))
        | (refine guard1_or (fun c => ?_) (fun c => ?_) <;> (have cc := c) <;> (try simp [-List.length_eq_zero_iff] at cc) <;> (try simp (disch := omega) [s5, o5, hl, e1, e2, e3, c]))
        | (simp (disch := omega) [s5, o5, hl, e1, e2, e3]))
      all_goals try (simp [s5, o5, hl, e1, e2, e3, Back]; done)
    · repeat' (first
        | (refine wp2_seq fun K hK => ?_)
        | (refine wp1_seq fun K hK => ?_)
        | (refine M_cons fun K hK => ?_)
        | (refine hK _ ?_; clear hK K)
        | (clear hK K; refine hK _ ?_; clear hK K)
        | (clear hK K; clear hK K; refine hK _ ?_; clear hK K)
        | (clear hK K; clear hK K; clear hK K; refine hK _ ?_; clear hK K)
        | (refine hX _ ?_; clear hX hY X Y)
        | (refine hY _ ?_; clear hX hY X Y)
        | (refine wp2_block ?_)
        | (refine wp1_block ?_)
        | (refine wp2_region ?_)
        | (refine wp1_region ?_)
        | (refine wp2_cond fun X Y hX hY => ?_)
        | (refine wp1_cond fun X Y hX hY => ?_)
        | (refine condK_of (fun c => ?_) (fun c => ?_) <;> (try simp [-List.length_eq_zero_iff] at c))
        | (refine guard1_or (fun c => ?_) (fun c => ?_) <;> (have cc := c) <;> (try simp [-List.length_eq_zero_iff] at cc) <;> (try simp (disch := omega) [s5, o5, hl, e1, e2, e3, c]))
        | (simp (disch := omega) [s5, o5, hl, e1, e2, e3]))
      all_goals try (simp [s5, o5, hl, e1, e2, e3, Back]; done)
  clear hK
  refine wp2_loop (fun n s => ∃ (k : Nat) (id : Nat) (l : List Int), (id = 44 ∨ id = 70) ∧ GB g s ∧ s.tm 46 = .t (ints (w.tail)) ∧ s.tm 47 = .t (.v (.int .i64 (w.tail).length)) ∧ s.tm 48 = .t (.v (.int .i64 k)) ∧ LSt (id, 0) l k s ∧ liftTo g w k = some l ∧ k < w.length ∧ n = w.length - k) w.length ?_ ?_
  · refine ⟨0, 44, [rd g.start (rd w 0)], ?_⟩
    simp [GB, LSt, t1, liftTo]
    omega
  · rintro n s ⟨k, id, l, hid, ⟨s2, o⟩, s46, s47, s48, ⟨s5, o5⟩, hl, hk, rfl⟩ K' hK'
    have e1 := liftTo_len hl
    have e2 := liftTo_last hg a0 b0 hl
    have e3 := arcE_lt (e := rd w ((k : Int) + 1)) hg e2.1 e2.2
    have e4 : rd w.tail k = rd w ((k : Int) + 1) := by rw [← rd_drop1, List.drop_one]
    have hd : w.tail.length = w.length - 1 := by simp
    have z1 : ¬ 0 ≤ arcE g (rd l k) (rd w ((k : Int) + 1)) → k + 1 < w.length → liftIR g w = .t (.v (.slice none 0 0)) := fun hn hk2 => liftIR_n (liftTo_none (k := k + 1) (by simp only [liftTo, hl, nextV_n (Int.not_le.1 hn)]) _ (by omega))
    have z2 : 0 ≤ arcE g (rd l k) (rd w ((k : Int) + 1)) → liftTo g w (k + 1) = some (l ++ [rd g.to (arcE g (rd l k) (rd w ((k : Int) + 1)))]) := fun hn => by simp only [liftTo, hl, nextV_y hn]
    have hkw : ¬ k + 1 < w.length → w.length - 1 = k := by omega
    rcases hid with rfl | rfl
    · repeat' (first
        | (refine wp2_seq fun K hK => ?_)
        | (refine wp1_seq fun K hK => ?_)
        | (refine M_cons fun K hK => ?_)
        | (refine hK _ ?_; clear hK K)
        | (clear hK K; refine hK _ ?_; clear hK K)
        | (clear hK K; clear hK K; refine hK _ ?_; clear hK K)
        | (clear hK K; clear hK K; clear hK K; refine hK _ ?_; clear hK K)
        | (refine hX _ ?_; clear hX hY X Y)
        | (refine hY _ ?_; clear hX hY X Y)
        | (refine wp2_block ?_)
        | (refine wp1_block ?_)
        | (refine wp2_rename (mk := [69, 70]) 70 60070 (by decide) ?_)
        | (refine wp2_region ?_)
        | (refine wp1_region ?_)
        | (refine wp2_cond fun X Y hX hY => ?_)
        | (refine wp1_cond fun X Y hX hY => ?_)
        | (refine condK_of (fun c => ?_) (fun c => ?_) <;> (try simp [-List.length_eq_zero_iff] at c))
        | (refine guard1_or (fun c => ?_) (fun c => ?_) <;> (have cc := c) <;> (try simp [-List.length_eq_zero_iff] at cc) <;> (try simp (disch := omega) [s2, o, s46, s47, s48, s5, o5, e1, e4, encG, c]))
        | (refine callT_fl (arcE_c g _ _ hg ?_ ?_) (by simp [St.args, St.arg, s2, o, s46, s47, s48, s5, o5, e1, e4, encG] <;> first | rfl | ((repeat' first | rfl | apply And.intro); done)) (by first | (simp [RV.flat, RV.flats, T.flat]; done) | ((repeat' first | exact flat_intRow _ | exact trivial | constructor | unfold RV.flat | unfold RV.flats); done)) (by simp [mutsOf]) ?_; omega; omega)
        | (simp (disch := omega) [s2, o, s46, s47, s48, s5, o5, e1, e4, encG]))
      all_goals try (simp [s2, o, s46, s47, s48, s5, o5, e1, e4, encG, Back]; done)
      all_goals first
        | omega
        | (simp [Back, z1 (by omega) (by omega)]; done)
        | (refine hK' (w.length - (k + 1)) _ (by omega) ⟨k + 1, 70, _, .inr rfl, ?_, ?_, ?_, ?_, ?_, z2 (by omega), by omega, rfl⟩
           all_goals simp [GB, LSt, s2, o, s46, s47, s48]
           done)
        | (have hq := hkw (by omega)
           refine hJ _ 44 l (.inl rfl) ?_ ?_
           · rw [hq]; simp [LSt, s5, o5]
           · rw [hq]; exact hl)
    · repeat' (first
        | (refine wp2_seq fun K hK => ?_)
        | (refine wp1_seq fun K hK => ?_)
        | (refine M_cons fun K hK => ?_)
        | (refine hK _ ?_; clear hK K)
        | (clear hK K; refine hK _ ?_; clear hK K)
        | (clear hK K; clear hK K; refine hK _ ?_; clear hK K)
        | (clear hK K; clear hK K; clear hK K; refine hK _ ?_; clear hK K)
        | (refine hX _ ?_; clear hX hY X Y)
        | (refine hY _ ?_; clear hX hY X Y)
        | (refine wp2_block ?_)
        | (refine wp1_block ?_)
        | (refine wp2_rename (mk := [69, 70]) 70 60070 (by decide) ?_)
        | (refine wp2_region ?_)
        | (refine wp1_region ?_)
        | (refine wp2_cond fun X Y hX hY => ?_)
        | (refine wp1_cond fun X Y hX hY => ?_)
        | (refine condK_of (fun c => ?_) (fun c => ?_) <;> (try simp [-List.length_eq_zero_iff] at c))
        | (refine guard1_or (fun c => ?_) (fun c => ?_) <;> (have cc := c) <;> (try simp [-List.length_eq_zero_iff] at cc) <;> (try simp (disch := omega) [s2, o, s46, s47, s48, s5, o5, e1, e4, encG, c]))
        | (refine callT_fl (arcE_c g _ _ hg ?_ ?_) (by simp [St.args, St.arg, s2, o, s46, s47, s48, s5, o5, e1, e4, encG] <;> first | rfl | ((repeat' first | rfl | apply And.intro); done)) (by first | (simp [RV.flat, RV.flats, T.flat]; done) | ((repeat' first | exact flat_intRow _ | exact trivial | constructor | unfold RV.flat | unfold RV.flats); done)) (by simp [mutsOf]) ?_; omega; omega)
        | (simp (disch := omega) [s2, o, s46, s47, s48, s5, o5, e1, e4, encG]))
      all_goals try (simp [s2, o, s46, s47, s48, s5, o5, e1, e4, encG, Back]; done)
      all_goals first
        | omega
        | (simp [Back, z1 (by omega) (by omega)]; done)
        | (refine hK' (w.length - (k + 1)) _ (by omega) ⟨k + 1, 70, _, .inr rfl, ?_, ?_, ?_, ?_, ?_, z2 (by omega), by omega, rfl⟩
           all_goals simp [GB, LSt, s2, o, s46, s47, s48]
           done)
        | (have hq := hkw (by omega)
           refine hJ _ 70 l (.inr rfl) ?_ ?_
           · rw [hq]; simp [LSt, s5, o5]
           · rw [hq]; exact hl)
set_option maxHeartbeats 0 in
theorem liftI_N {g : Gr} {w : List Int} (hL : ¬ LW g w) (h : sumG g ≤ 1048576) (hp : w.length ≤ 1048576) : CallsF Try.prog 26 [.agg (encG g), .val (ints w)] (.t (.v (.slice none 0 0))) [] := by
  have h2 := h
  unfold sumG at h2
  refine callsF_of_wp2 (fn := Try.f26) (k := k26) (fun _ => []) mixed (by kernel_rfl) rfl (by kernel_rfl) (by kernel_rfl) (by kernel_rfl) rfl (by simp [Try.f26]) (by simp [Arg.like]) ?_
  generalize hst : St.enter [.agg (encG g), .val (ints w)] = st0
  have t0 : st0.tm 0 = .agg ((encG g) |>.map .t) := by rw [← hst]; rfl
  have t1 : st0.tm 1 = .t (ints w) := by rw [← hst]; rfl
  clear hst
  unfold k26
  simp [encG] at t0
  have hx : VG g → 0 < w.length → w.length ≤ 10000 → 0 ≤ rd w 0 → ¬ rd w 0 < g.start.length := fun a b c d e => hL ⟨a, b, c, d, e⟩
  by_cases hg : VG g
  · have hx := hx hg
    repeat' (first
      | (refine wp2_seq fun K hK => ?_)
      | (refine wp1_seq fun K hK => ?_)
      | (refine M_cons fun K hK => ?_)
      | (refine hK _ ?_; clear hK K)
      | (clear hK K; refine hK _ ?_; clear hK K)
      | (clear hK K; clear hK K; refine hK _ ?_; clear hK K)
      | (clear hK K; clear hK K; clear hK K; refine hK _ ?_; clear hK K)
      | (refine hX _ ?_; clear hX hY X Y)
      | (refine hY _ ?_; clear hX hY X Y)
      | (refine wp2_block ?_)
      | (refine wp1_block ?_)
      | (refine wp2_region ?_)
      | (refine wp1_region ?_)
      | (refine wp2_cond fun X Y hX hY => ?_)
      | (refine wp1_cond fun X Y hX hY => ?_)
      | (refine condK_of (fun c => ?_) (fun c => ?_) <;> (try simp [-List.length_eq_zero_iff] at c))
      | (refine guard1_or (fun c => ?_) (fun c => ?_) <;> (have cc := c) <;> (try simp [-List.length_eq_zero_iff] at cc) <;> (try simp (disch := omega) [t0, t1, hg, encG, c]))
      | (refine callT_fl (vgI g ?_ ?_ ?_ ?_ ?_ ?_ ?_) (by simp [St.args, St.arg, t0, t1, hg, encG] <;> first | rfl | ((repeat' first | rfl | apply And.intro); done)) (by first | (simp [RV.flat, RV.flats, T.flat]; done) | ((repeat' first | exact flat_intRow _ | exact trivial | constructor | unfold RV.flat | unfold RV.flats); done)) (by simp [mutsOf]) ?_; omega; omega; omega; omega; omega; omega; omega)
      | (simp (disch := omega) [t0, t1, hg, encG]))
    all_goals try (simp [t0, t1, hg, encG, Back]; done)
    all_goals first | omega | (simp [Back]; done) | skip
  · repeat' (first
      | (refine wp2_seq fun K hK => ?_)
      | (refine wp1_seq fun K hK => ?_)
      | (refine M_cons fun K hK => ?_)
      | (refine hK _ ?_; clear hK K)
      | (clear hK K; refine hK _ ?_; clear hK K)
      | (clear hK K; clear hK K; refine hK _ ?_; clear hK K)
      | (clear hK K; clear hK K; clear hK K; refine hK _ ?_; clear hK K)
      | (refine hX _ ?_; clear hX hY X Y)
      | (refine hY _ ?_; clear hX hY X Y)
      | (refine wp2_block ?_)
      | (refine wp1_block ?_)
      | (refine wp2_region ?_)
      | (refine wp1_region ?_)
      | (refine wp2_cond fun X Y hX hY => ?_)
      | (refine wp1_cond fun X Y hX hY => ?_)
      | (refine condK_of (fun c => ?_) (fun c => ?_) <;> (try simp [-List.length_eq_zero_iff] at c))
      | (refine guard1_or (fun c => ?_) (fun c => ?_) <;> (have cc := c) <;> (try simp [-List.length_eq_zero_iff] at cc) <;> (try simp (disch := omega) [t0, t1, hg, encG, c]))
      | (refine callT_fl (vgI g ?_ ?_ ?_ ?_ ?_ ?_ ?_) (by simp [St.args, St.arg, t0, t1, hg, encG] <;> first | rfl | ((repeat' first | rfl | apply And.intro); done)) (by first | (simp [RV.flat, RV.flats, T.flat]; done) | ((repeat' first | exact flat_intRow _ | exact trivial | constructor | unfold RV.flat | unfold RV.flats); done)) (by simp [mutsOf]) ?_; omega; omega; omega; omega; omega; omega; omega)
      | (simp (disch := omega) [t0, t1, hg, encG]))
    all_goals try (simp [t0, t1, hg, encG, Back]; done)
    all_goals first | omega | (simp [Back]; done) | skip
end Cal

set_option linter.unusedSimpArgs false
set_option linter.unusedVariables false
namespace Cal
open Go Go.Proofs
set_option maxRecDepth 100000
/-- The lifted walk, if there is one. -/
def Lifts (g : Gr) (w l : List Int) : Prop := LW g w ∧ liftTo g w (w.length - 1) = some l
theorem lifts_len {g : Gr} {w l : List Int} (h : Lifts g w l) : l.length = w.length := by
  have := liftTo_len h.2
  have := h.1.pos
  omega
theorem liftS_y {g : Gr} {w l : List Int} (hl : Lifts g w l) (h : sumG g ≤ 1048576) (hp : w.length ≤ 1048576) : CallsF Try.prog 25 [.agg (encG g), .val (ints w)] (.own 1 (intRow l)) [] := by
  have := liftWalkS_y hl.1 h hp
  rw [hl.2] at this
  exact this
theorem liftI_y {g : Gr} {w l : List Int} (hl : Lifts g w l) (h : sumG g ≤ 1048576) (hp : w.length ≤ 1048576) : CallsF Try.prog 26 [.agg (encG g), .val (ints w)] (.own 1 (intRow l)) [] := by
  have := liftI_L hl.1 h hp
  rw [liftIR_y hl.2] at this
  exact this
theorem liftS_n {g : Gr} {w : List Int} (hl : ∀ l, ¬ Lifts g w l) (h : sumG g ≤ 1048576) (hp : w.length ≤ 1048576) : CallsF Try.prog 25 [.agg (encG g), .val (ints w)] (.own 1 []) [] := by
  by_cases hL : LW g w
  · have := liftWalkS_y hL h hp
    cases hc : liftTo g w (w.length - 1) with
    | none => rw [hc] at this; exact this
    | some l => exact absurd ⟨hL, hc⟩ (hl l)
  · exact liftWalkS_n hL h hp
theorem liftI_n {g : Gr} {w : List Int} (hl : ∀ l, ¬ Lifts g w l) (h : sumG g ≤ 1048576) (hp : w.length ≤ 1048576) : CallsF Try.prog 26 [.agg (encG g), .val (ints w)] (.t (.v (.slice none 0 0))) [] := by
  by_cases hL : LW g w
  · have := liftI_L hL h hp
    cases hc : liftTo g w (w.length - 1) with
    | none => rw [liftIR_n hc] at this; exact this
    | some l => exact absurd ⟨hL, hc⟩ (hl l)
  · exact liftI_N hL h hp
/-- The code of laws.FnExactLiftWalk. -/
def k6 : Code1 :=
  (.seq
    (.region [2] false ([]) [
      ⟨some 2, Op.box 24 (Operand.tmp 0), none⟩,
      ⟨some 4, Op.assign (Operand.const (Value.bool false)), none⟩])
    (.seq
      (.seq
        (.region [] false ([]) [
          ⟨some 14, Op.move (Operand.tmp 1), none⟩,
          ⟨some 15, Op.call { callee := Callee.builtin Builtin.len, args := #[Operand.tmp 14], argTypes := #[22] }, none⟩,
          ⟨some 16, Op.binOp BinOp.gtr 3 (Operand.tmp 15) (Operand.const (Value.int IntKind.i64 1048576)) 3, none⟩])
        (.cond (Operand.tmp 16)
          (.seq
            (.region [] false ([]) [
              ⟨some 4, Op.assign (Operand.const (Value.bool true)), none⟩])
            .ret)
          .skip))
      (.seq
        (.region [] false ([]) [
          ⟨some 5, Op.assign (Operand.const (Value.int IntKind.i64 1048576)), none⟩])
        (.seq
          (.region [19] false ([]) [
            ⟨some 17, Op.load 24 (Operand.tmp 2), none⟩,
            ⟨some 18, Op.move (Operand.tmp 5), none⟩,
            ⟨some 19, Op.call { callee := Callee.value (Operand.func 11), args := #[Operand.tmp 17, Operand.tmp 18], argTypes := #[24, 3] }, none⟩,
            ⟨some 5, Op.assign (Operand.tmp 19), none⟩])
          (.seq
            (.seq
              (.region [] false ([]) [
                ⟨some 20, Op.move (Operand.tmp 5), none⟩,
                ⟨some 21, Op.binOp BinOp.lss 3 (Operand.tmp 20) (Operand.const (Value.int IntKind.i64 0)) 3, none⟩])
              (.cond (Operand.tmp 21)
                (.seq
                  (.region [] false ([]) [
                    ⟨some 4, Op.assign (Operand.const (Value.bool true)), none⟩])
                  .ret)
                .skip))
            (.seq
              (.region [23, 25, 26] false ([]) [
                ⟨some 22, Op.load 24 (Operand.tmp 2), none⟩,
                ⟨some 23, Op.call { callee := Callee.value (Operand.func 13), args := #[Operand.tmp 22], argTypes := #[24] }, none⟩,
                ⟨some 24, Op.move (Operand.tmp 1), none⟩,
                ⟨some 25, Op.call { callee := Callee.value (Operand.func 22), args := #[Operand.tmp 24], argTypes := #[22] }, none⟩,
                ⟨some 26, Op.call { callee := Callee.value (Operand.func 25), args := #[Operand.tmp 23, Operand.tmp 25], argTypes := #[27, 22] }, none⟩,
                ⟨some 6, Op.assign (Operand.tmp 26), none⟩])
              (.seq
                (.region [28, 7] false ([]) [
                  ⟨some 27, Op.load 24 (Operand.tmp 2), none⟩,
                  ⟨some 28, Op.call { callee := Callee.value (Operand.func 13), args := #[Operand.tmp 27], argTypes := #[24] }, none⟩,
                  ⟨some 7, Op.alloc 27, none⟩,
                  ⟨none, Op.store 27 (Operand.tmp 7) (Operand.tmp 28), none⟩])
                (.seq
                  (.region [30] false ([]) [
                    ⟨some 29, Op.move (Operand.tmp 1), none⟩,
                    ⟨some 30, Op.call { callee := Callee.value (Operand.func 22), args := #[Operand.tmp 29], argTypes := #[22] }, none⟩,
                    ⟨some 8, Op.assign (Operand.tmp 30), none⟩])
                  (.seq
                    (.region [33] false ([]) [
                      ⟨some 31, Op.load 27 (Operand.tmp 7), none⟩,
                      ⟨some 32, Op.move (Operand.tmp 8), none⟩,
                      ⟨some 33, Op.call { callee := Callee.value (Operand.func 26), args := #[Operand.tmp 31, Operand.tmp 32], argTypes := #[27, 22] }, none⟩,
                      ⟨some 9, Op.assign (Operand.tmp 33), none⟩])
                    (.seq
                      (.seq
                        (.region [36] false ([]) [
                          ⟨some 34, Op.move (Operand.tmp 9), none⟩,
                          ⟨some 35, Op.move (Operand.tmp 6), none⟩,
                          ⟨some 36, Op.call { callee := Callee.value (Operand.func 24), args := #[Operand.tmp 34, Operand.tmp 35], argTypes := #[22, 22] }, none⟩,
                          ⟨some 37, Op.unOp UnOp.not 4 (Operand.tmp 36), none⟩])
                        (.cond (Operand.tmp 37)
                          (.seq
                            (.region [] false ([]) [
                              ⟨some 4, Op.assign (Operand.const (Value.bool false)), none⟩])
                            .ret)
                          .skip))
                      (.seq
                        (.seq
                          (.region [40, 41] true ([]) [
                            ⟨some 38, Op.load 27 (Operand.tmp 7), none⟩,
                            ⟨some 39, Op.load 24 (Operand.tmp 2), none⟩,
                            ⟨some 40, Op.call { callee := Callee.value (Operand.func 13), args := #[Operand.tmp 39], argTypes := #[24] }, none⟩,
                            ⟨some 41, Op.call { callee := Callee.value (Operand.func 15), args := #[Operand.tmp 38, Operand.tmp 40], argTypes := #[27, 27] }, none⟩,
                            ⟨some 42, Op.unOp UnOp.not 4 (Operand.tmp 41), none⟩])
                          (.cond (Operand.tmp 42)
                            (.seq
                              (.region [] false ([]) [
                                ⟨some 4, Op.assign (Operand.const (Value.bool false)), none⟩])
                              .ret)
                            .skip))
                        (.seq
                          (.seq
                            (.region [45, 46] false ([]) [
                              ⟨some 43, Op.move (Operand.tmp 8), none⟩,
                              ⟨some 44, Op.move (Operand.tmp 1), none⟩,
                              ⟨some 45, Op.call { callee := Callee.value (Operand.func 22), args := #[Operand.tmp 44], argTypes := #[22] }, none⟩,
                              ⟨some 46, Op.call { callee := Callee.value (Operand.func 24), args := #[Operand.tmp 43, Operand.tmp 45], argTypes := #[22, 22] }, none⟩,
                              ⟨some 47, Op.unOp UnOp.not 4 (Operand.tmp 46), none⟩])
                            (.cond (Operand.tmp 47)
                              (.seq
                                (.region [] false ([]) [
                                  ⟨some 4, Op.assign (Operand.const (Value.bool false)), none⟩])
                                .ret)
                              .skip))
                          (.seq
                            (.region [] false ([]) [
                              ⟨some 10, Op.assign (Operand.const (Value.int IntKind.i64 1)), none⟩])
                            (.seq
                              (.region [50] false ([]) [
                                ⟨some 48, Op.load 27 (Operand.tmp 7), none⟩,
                                ⟨some 49, Op.move (Operand.tmp 10), none⟩,
                                ⟨some 50, Op.call { callee := Callee.value (Operand.func 27), args := #[Operand.tmp 48, Operand.tmp 49], argTypes := #[27, 3] }, none⟩,
                                ⟨some 10, Op.assign (Operand.tmp 50), none⟩])
                              (.seq
                                (.region [53] false ([]) [
                                  ⟨some 51, Op.move (Operand.tmp 8), none⟩,
                                  ⟨some 52, Op.move (Operand.tmp 10), none⟩,
                                  ⟨some 53, Op.call { callee := Callee.value (Operand.func 28), args := #[Operand.tmp 51, Operand.tmp 52], argTypes := #[22, 3] }, none⟩,
                                  ⟨some 10, Op.assign (Operand.tmp 53), none⟩])
                                (.seq
                                  (.seq
                                    (.region [59] false ([]) [
                                      ⟨some 54, Op.move (Operand.tmp 10), none⟩,
                                      ⟨some 55, Op.binOp BinOp.lss 3 (Operand.tmp 54) (Operand.const (Value.int IntKind.i64 0)) 3, none⟩,
                                      ⟨some 56, Op.move (Operand.tmp 55), none⟩,
                                      ⟨some 57, Op.move (Operand.tmp 9), some (56, false)⟩,
                                      ⟨some 58, Op.move (Operand.tmp 6), some (56, false)⟩,
                                      ⟨some 59, Op.call { callee := Callee.value (Operand.func 24), args := #[Operand.tmp 57, Operand.tmp 58], argTypes := #[22, 22] }, some (56, false)⟩,
                                      ⟨some 60, Op.unOp UnOp.not 4 (Operand.tmp 59), some (56, false)⟩,
                                      ⟨some 61, Op.pick (Operand.tmp 56) (Operand.const (Value.bool true)) (Operand.tmp 60), none⟩])
                                    (.cond (Operand.tmp 61)
                                      (.seq
                                        (.region [] false ([]) [
                                          ⟨some 4, Op.assign (Operand.const (Value.bool false)), none⟩])
                                        .ret)
                                      .skip))
                                  (.seq
                                    (.region [] false ([]) [
                                      ⟨some 11, Op.assign (Operand.const (Value.int IntKind.i64 1)), none⟩])
                                    (.seq
                                      (.region [64] false ([]) [
                                        ⟨some 62, Op.move (Operand.tmp 9), none⟩,
                                        ⟨some 63, Op.move (Operand.tmp 11), none⟩,
                                        ⟨some 64, Op.call { callee := Callee.value (Operand.func 28), args := #[Operand.tmp 62, Operand.tmp 63], argTypes := #[22, 3] }, none⟩,
                                        ⟨some 11, Op.assign (Operand.tmp 64), none⟩])
                                      (.seq
                                        (.region [] false ([]) [
                                          ⟨some 12, Op.assign (Operand.const (Value.int IntKind.i64 1)), none⟩])
                                        (.seq
                                          (.region [67] false ([]) [
                                            ⟨some 65, Op.move (Operand.tmp 9), none⟩,
                                            ⟨some 66, Op.move (Operand.tmp 12), none⟩,
                                            ⟨some 67, Op.call { callee := Callee.value (Operand.func 29), args := #[Operand.tmp 65, Operand.tmp 66], argTypes := #[22, 3] }, none⟩,
                                            ⟨some 12, Op.assign (Operand.tmp 67), none⟩])
                                          (.seq
                                            (.seq
                                              (.region [] false ([]) [
                                                ⟨some 68, Op.move (Operand.tmp 12), none⟩,
                                                ⟨some 69, Op.binOp BinOp.lss 3 (Operand.tmp 68) (Operand.const (Value.int IntKind.i64 0)) 3, none⟩])
                                              (.cond (Operand.tmp 69)
                                                (.seq
                                                  (.region [] false ([]) [
                                                    ⟨some 4, Op.assign (Operand.const (Value.bool false)), none⟩])
                                                  .ret)
                                                .skip))
                                            (.seq
                                              (.seq
                                                (.region [] false ([]) [
                                                  ⟨some 70, Op.move (Operand.tmp 12), none⟩,
                                                  ⟨some 71, Op.move (Operand.tmp 11), none⟩,
                                                  ⟨some 72, Op.binOp BinOp.neq 3 (Operand.tmp 70) (Operand.tmp 71) 3, none⟩])
                                                (.cond (Operand.tmp 72)
                                                  (.seq
                                                    (.region [] false ([]) [
                                                      ⟨some 4, Op.assign (Operand.const (Value.bool false)), none⟩])
                                                    .ret)
                                                  .skip))
                                              (.seq
                                                (.region [74, 76, 77] false ([]) [
                                                  ⟨some 73, Op.load 24 (Operand.tmp 2), none⟩,
                                                  ⟨some 74, Op.call { callee := Callee.value (Operand.func 13), args := #[Operand.tmp 73], argTypes := #[24] }, none⟩,
                                                  ⟨some 75, Op.move (Operand.tmp 1), none⟩,
                                                  ⟨some 76, Op.call { callee := Callee.value (Operand.func 22), args := #[Operand.tmp 75], argTypes := #[22] }, none⟩,
                                                  ⟨some 77, Op.call { callee := Callee.value (Operand.func 26), args := #[Operand.tmp 74, Operand.tmp 76], argTypes := #[27, 22] }, none⟩,
                                                  ⟨some 13, Op.assign (Operand.tmp 77), none⟩])
                                                (.seq
                                                  (.seq
                                                    (.region [80] false ([]) [
                                                      ⟨some 78, Op.move (Operand.tmp 13), none⟩,
                                                      ⟨some 79, Op.move (Operand.tmp 6), none⟩,
                                                      ⟨some 80, Op.call { callee := Callee.value (Operand.func 24), args := #[Operand.tmp 78, Operand.tmp 79], argTypes := #[22, 22] }, none⟩,
                                                      ⟨some 81, Op.unOp UnOp.not 4 (Operand.tmp 80), none⟩])
                                                    (.cond (Operand.tmp 81)
                                                      (.seq
                                                        (.region [] false ([]) [
                                                          ⟨some 4, Op.assign (Operand.const (Value.bool false)), none⟩])
                                                        .ret)
                                                      .skip))
                                                  (.seq
                                                    (.region [] false ([]) [
                                                      ⟨some 4, Op.assign (Operand.const (Value.bool true)), none⟩])
                                                    .ret)))))))))))))))))))))))))
end Cal

set_option linter.unusedSimpArgs false
set_option linter.unusedVariables false
namespace Cal
open Go Go.Proofs
set_option maxRecDepth 100000
set_option maxHeartbeats 0 in
theorem lawLW_y (g : Gr) (p l : List Int) (hg : smallG g) (hp2 : p.length ≤ 1048576) (hs2 : sumG g ≤ 1048576) (hv : Lifts g p l) : CallsF Try.prog 6 [.agg (encG g), .val (ints p)] (.t (.v (.bool true))) [] := by
  refine callsF_of_wp1 (fn := Try.f6) (k := k6) (fun _ => []) mixed (by kernel_rfl) rfl (by kernel_rfl) (by kernel_rfl) (by kernel_rfl) rfl (by simp [Try.f6]) (by simp [Arg.like]) ?_
  generalize hst : St.enter [.agg (encG g), .val (ints p)] = st0
  have t0 : st0.tm 0 = .agg ((encG g) |>.map .t) := by rw [← hst]; rfl
  have t1 : st0.tm 1 = .t (ints p) := by rw [← hst]; rfl
  clear hst
  unfold k6
  simp [encG] at t0
  have hs : ¬ 1048576 < sumG g := by omega
  have hs3 : 0 ≤ 1048576 - sumG g := by omega
  have hs4 := hs2
  unfold sumG at hs4
  have el : l.length = p.length := lifts_len hv
  repeat' (first
    | (refine wp2_seq fun K hK => ?_)
    | (refine wp1_seq fun K hK => ?_)
    | (refine M_cons fun K hK => ?_)
    | (refine hK _ ?_; clear hK K)
    | (clear hK K; refine hK _ ?_; clear hK K)
    | (clear hK K; clear hK K; refine hK _ ?_; clear hK K)
    | (clear hK K; clear hK K; clear hK K; refine hK _ ?_; clear hK K)
    | (refine hX _ ?_; clear hX hY X Y)
    | (refine hY _ ?_; clear hX hY X Y)
    | (refine wp2_block ?_)
    | (refine wp1_block ?_)
    | (refine wp2_region ?_)
    | (refine wp1_region ?_)
    | (refine wp2_cond fun X Y hX hY => ?_)
    | (refine wp1_cond fun X Y hX hY => ?_)
    | (refine condK_of (fun c => ?_) (fun c => ?_) <;> (try simp [-List.length_eq_zero_iff] at c))
    | (refine guard1_or (fun c => ?_) (fun c => ?_) <;> (have cc := c) <;> (try simp [-List.length_eq_zero_iff] at cc) <;> (try simp (disch := omega) [t0, t1, hs, encG, rvG, c]))
    | (refine callT_fl (szG g _ hg ?_ ?_) (by simp [St.args, St.arg, t0, t1, hs, encG, rvG] <;> first | rfl | ((repeat' first | rfl | apply And.intro); done)) (by first | (simp [RV.flat, RV.flats, T.flat]; done) | ((repeat' first | exact flat_intRow _ | exact trivial | constructor | unfold RV.flat | unfold RV.flats); done)) (by simp [mutsOf]) ?_; omega; omega)
    | (refine callT_fl (toG g ?_) (by simp [St.args, St.arg, t0, t1, hs, encG, rvG] <;> first | rfl | ((repeat' first | rfl | apply And.intro); done)) (by first | (simp [RV.flat, RV.flats, T.flat]; done) | ((repeat' first | exact flat_intRow _ | exact trivial | constructor | unfold RV.flat | unfold RV.flats); done)) (by simp [mutsOf]) ?_; omega)
    | (refine callT_fl (toI p ?_) (by simp [St.args, St.arg, t0, t1, hs, encG, rvG] <;> first | rfl | ((repeat' first | rfl | apply And.intro); done)) (by first | (simp [RV.flat, RV.flats, T.flat]; done) | ((repeat' first | exact flat_intRow _ | exact trivial | constructor | unfold RV.flat | unfold RV.flats); done)) (by simp [mutsOf]) ?_; omega)
    | (refine callT_fl (liftS_y hv hs2 hp2) (by simp [St.args, St.arg, t0, t1, hs, encG, rvG] <;> first | rfl | ((repeat' first | rfl | apply And.intro); done)) (by first | (simp [RV.flat, RV.flats, T.flat]; done) | ((repeat' first | exact flat_intRow _ | exact trivial | constructor | unfold RV.flat | unfold RV.flats); done)) (by simp [mutsOf]) ?_)
    | (refine callT_fl (liftI_y hv hs2 hp2) (by simp [St.args, St.arg, t0, t1, hs, encG, rvG] <;> first | rfl | ((repeat' first | rfl | apply And.intro); done)) (by first | (simp [RV.flat, RV.flats, T.flat]; done) | ((repeat' first | exact flat_intRow _ | exact trivial | constructor | unfold RV.flat | unfold RV.flats); done)) (by simp [mutsOf]) ?_)
    | (refine callT_fl (eqG g ?_) (by simp [St.args, St.arg, t0, t1, hs, encG, rvG] <;> first | rfl | ((repeat' first | rfl | apply And.intro); done)) (by first | (simp [RV.flat, RV.flats, T.flat]; done) | ((repeat' first | exact flat_intRow _ | exact trivial | constructor | unfold RV.flat | unfold RV.flats); done)) (by simp [mutsOf]) ?_; omega)
    | (refine callT_fl (eqI _ _ ?_ ?_) (by simp [St.args, St.arg, t0, t1, hs, encG, rvG] <;> first | rfl | ((repeat' first | rfl | apply And.intro); done)) (by first | (simp [RV.flat, RV.flats, T.flat]; done) | ((repeat' first | exact flat_intRow _ | exact trivial | constructor | unfold RV.flat | unfold RV.flats); done)) (by simp [mutsOf]) ?_; omega; omega)
    | (refine callT_sh true (sh := [some 7, none]) (markG g.edgeOf g.stateOf g.first g.to g.cost g.start g.weight _ ?_ ?_ ?_) (by simp; rfl) (by simp [St.args, St.arg, t0, t1, hs, encG, rvG] <;> first | rfl | ((repeat' first | rfl | apply And.intro); done)) (fun _ => ⟨(by first | (simp [RV.flat, RV.flats, T.flat]; done) | ((repeat' first | exact flat_intRow _ | exact trivial | constructor | unfold RV.flat | unfold RV.flats); done)), (by (repeat' first | exact flat_intRow _ | exact trivial | constructor | unfold Arg.flats | unfold Arg.flat); done)⟩) (by simp [apartArgs, mutsOf, noRow, valsOf]) (by simp) ?_; omega; omega; omega)
    | (refine callT_mrow (markI _ _ ?_ ?_ ?_) (by simp [t0, t1, hs, encG, rvG]; rfl) (by simp) rfl (by simp [RV.flat, T.flat]) (by (repeat' first | exact flat_intRow _ | exact trivial | constructor | unfold Arg.flats | unfold Arg.flat); done) ?_; omega; omega; omega)
    | (refine callT_fl (heldI l.length _ ?_ ?_ ?_) (by simp [St.args, St.arg, t0, t1, hs, encG, rvG] <;> first | rfl | ((repeat' first | rfl | apply And.intro); done)) (by first | (simp [RV.flat, RV.flats, T.flat]; done) | ((repeat' first | exact flat_intRow _ | exact trivial | constructor | unfold RV.flat | unfold RV.flats); done)) (by simp [mutsOf]) ?_; omega; omega; omega)
    | (simp (disch := omega) [t0, t1, hs, encG, rvG]))
  all_goals try (simp [t0, t1, hs, encG, rvG, Back]; done)
  all_goals omega
end Cal

set_option linter.unusedSimpArgs false
set_option linter.unusedVariables false
namespace Cal
open Go Go.Proofs
set_option maxRecDepth 100000
set_option maxHeartbeats 0 in
theorem lawLW_n (g : Gr) (p : List Int) (hg : smallG g) (hp2 : p.length ≤ 1048576) (hs2 : sumG g ≤ 1048576) (hv : ∀ l, ¬ Lifts g p l) : CallsF Try.prog 6 [.agg (encG g), .val (ints p)] (.t (.v (.bool true))) [] := by
  refine callsF_of_wp1 (fn := Try.f6) (k := k6) (fun _ => []) mixed (by kernel_rfl) rfl (by kernel_rfl) (by kernel_rfl) (by kernel_rfl) rfl (by simp [Try.f6]) (by simp [Arg.like]) ?_
  generalize hst : St.enter [.agg (encG g), .val (ints p)] = st0
  have t0 : st0.tm 0 = .agg ((encG g) |>.map .t) := by rw [← hst]; rfl
  have t1 : st0.tm 1 = .t (ints p) := by rw [← hst]; rfl
  clear hst
  unfold k6
  simp [encG] at t0
  have hs : ¬ 1048576 < sumG g := by omega
  have hs3 : 0 ≤ 1048576 - sumG g := by omega
  have hs4 := hs2
  unfold sumG at hs4
  repeat' (first
    | (refine wp2_seq fun K hK => ?_)
    | (refine wp1_seq fun K hK => ?_)
    | (refine M_cons fun K hK => ?_)
    | (refine hK _ ?_; clear hK K)
    | (clear hK K; refine hK _ ?_; clear hK K)
    | (clear hK K; clear hK K; refine hK _ ?_; clear hK K)
    | (clear hK K; clear hK K; clear hK K; refine hK _ ?_; clear hK K)
    | (refine hX _ ?_; clear hX hY X Y)
    | (refine hY _ ?_; clear hX hY X Y)
    | (refine wp2_block ?_)
    | (refine wp1_block ?_)
    | (refine wp2_region ?_)
    | (refine wp1_region ?_)
    | (refine wp2_cond fun X Y hX hY => ?_)
    | (refine wp1_cond fun X Y hX hY => ?_)
    | (refine condK_of (fun c => ?_) (fun c => ?_) <;> (try simp [-List.length_eq_zero_iff] at c))
    | (refine guard1_or (fun c => ?_) (fun c => ?_) <;> (have cc := c) <;> (try simp [-List.length_eq_zero_iff] at cc) <;> (try simp (disch := omega) [t0, t1, hs, encG, rvG, c]))
    | (refine callT_fl (szG g _ hg ?_ ?_) (by simp [St.args, St.arg, t0, t1, hs, encG, rvG] <;> first | rfl | ((repeat' first | rfl | apply And.intro); done)) (by first | (simp [RV.flat, RV.flats, T.flat]; done) | ((repeat' first | exact flat_intRow _ | exact trivial | constructor | unfold RV.flat | unfold RV.flats); done)) (by simp [mutsOf]) ?_; omega; omega)
    | (refine callT_fl (toG g ?_) (by simp [St.args, St.arg, t0, t1, hs, encG, rvG] <;> first | rfl | ((repeat' first | rfl | apply And.intro); done)) (by first | (simp [RV.flat, RV.flats, T.flat]; done) | ((repeat' first | exact flat_intRow _ | exact trivial | constructor | unfold RV.flat | unfold RV.flats); done)) (by simp [mutsOf]) ?_; omega)
    | (refine callT_fl (toI p ?_) (by simp [St.args, St.arg, t0, t1, hs, encG, rvG] <;> first | rfl | ((repeat' first | rfl | apply And.intro); done)) (by first | (simp [RV.flat, RV.flats, T.flat]; done) | ((repeat' first | exact flat_intRow _ | exact trivial | constructor | unfold RV.flat | unfold RV.flats); done)) (by simp [mutsOf]) ?_; omega)
    | (refine callT_fl (liftS_n hv hs2 hp2) (by simp [St.args, St.arg, t0, t1, hs, encG, rvG] <;> first | rfl | ((repeat' first | rfl | apply And.intro); done)) (by first | (simp [RV.flat, RV.flats, T.flat]; done) | ((repeat' first | exact flat_intRow _ | exact trivial | constructor | unfold RV.flat | unfold RV.flats); done)) (by simp [mutsOf]) ?_)
    | (refine callT_fl (liftI_n hv hs2 hp2) (by simp [St.args, St.arg, t0, t1, hs, encG, rvG] <;> first | rfl | ((repeat' first | rfl | apply And.intro); done)) (by first | (simp [RV.flat, RV.flats, T.flat]; done) | ((repeat' first | exact flat_intRow _ | exact trivial | constructor | unfold RV.flat | unfold RV.flats); done)) (by simp [mutsOf]) ?_)
    | (refine callT_fl (eqG g ?_) (by simp [St.args, St.arg, t0, t1, hs, encG, rvG] <;> first | rfl | ((repeat' first | rfl | apply And.intro); done)) (by first | (simp [RV.flat, RV.flats, T.flat]; done) | ((repeat' first | exact flat_intRow _ | exact trivial | constructor | unfold RV.flat | unfold RV.flats); done)) (by simp [mutsOf]) ?_; omega)
    | (refine callT_nil (eqN) (by simp [St.args, St.arg, t0, t1, hs, encG, rvG] <;> first | rfl | ((repeat' first | rfl | apply And.intro); done)) (by simp [RV.flat, T.flat]) (by simp [mutsOf]) ?_)
    | (refine callT_fl (eqI _ _ ?_ ?_) (by simp [St.args, St.arg, t0, t1, hs, encG, rvG] <;> first | rfl | ((repeat' first | rfl | apply And.intro); done)) (by first | (simp [RV.flat, RV.flats, T.flat]; done) | ((repeat' first | exact flat_intRow _ | exact trivial | constructor | unfold RV.flat | unfold RV.flats); done)) (by simp [mutsOf]) ?_; omega; omega)
    | (refine callT_sh true (sh := [some 7, none]) (markG g.edgeOf g.stateOf g.first g.to g.cost g.start g.weight _ ?_ ?_ ?_) (by simp; rfl) (by simp [St.args, St.arg, t0, t1, hs, encG, rvG] <;> first | rfl | ((repeat' first | rfl | apply And.intro); done)) (fun _ => ⟨(by first | (simp [RV.flat, RV.flats, T.flat]; done) | ((repeat' first | exact flat_intRow _ | exact trivial | constructor | unfold RV.flat | unfold RV.flats); done)), (by (repeat' first | exact flat_intRow _ | exact trivial | constructor | unfold Arg.flats | unfold Arg.flat); done)⟩) (by simp [apartArgs, mutsOf, noRow, valsOf]) (by simp) ?_; omega; omega; omega)
    | (refine callT_nil (markN _) (by simp [St.args, St.arg, t0, t1, hs, encG, rvG] <;> first | rfl | ((repeat' first | rfl | apply And.intro); done)) (by simp [RV.flat, T.flat]) (by simp [mutsOf]) ?_)
    | (refine callT_mrow (markI _ _ ?_ ?_ ?_) (by simp [t0, t1, hs, encG, rvG]; rfl) (by simp) rfl (by simp [RV.flat, T.flat]) (by (repeat' first | exact flat_intRow _ | exact trivial | constructor | unfold Arg.flats | unfold Arg.flat); done) ?_; omega; omega; omega)
    | (refine callT_nil (heldN _) (by simp [St.args, St.arg, t0, t1, hs, encG, rvG] <;> first | rfl | ((repeat' first | rfl | apply And.intro); done)) (by simp [RV.flat, T.flat]) (by simp [mutsOf]) ?_)
    | (simp (disch := omega) [t0, t1, hs, encG, rvG]))
  all_goals try (simp [t0, t1, hs, encG, rvG, Back]; done)
  all_goals omega
end Cal

set_option linter.unusedSimpArgs false
set_option linter.unusedVariables false
namespace Cal
open Go Go.Proofs
set_option maxRecDepth 100000
set_option maxHeartbeats 0 in
theorem lawLW_a (g : Gr) (p : List Int) (hp : 1048576 < p.length) : CallsF Try.prog 6 [.agg (encG g), .val (ints p)] (.t (.v (.bool true))) [] := by
  refine callsF_of_wp1 (fn := Try.f6) (k := k6) (fun _ => []) mixed (by kernel_rfl) rfl (by kernel_rfl) (by kernel_rfl) (by kernel_rfl) rfl (by simp [Try.f6]) (by simp [Arg.like]) ?_
  generalize hst : St.enter [.agg (encG g), .val (ints p)] = st0
  have t0 : st0.tm 0 = .agg ((encG g) |>.map .t) := by rw [← hst]; rfl
  have t1 : st0.tm 1 = .t (ints p) := by rw [← hst]; rfl
  clear hst
  unfold k6
  simp [encG] at t0
  repeat' (first
    | (refine wp2_seq fun K hK => ?_)
    | (refine wp1_seq fun K hK => ?_)
    | (refine M_cons fun K hK => ?_)
    | (refine hK _ ?_; clear hK K)
    | (clear hK K; refine hK _ ?_; clear hK K)
    | (clear hK K; clear hK K; refine hK _ ?_; clear hK K)
    | (clear hK K; clear hK K; clear hK K; refine hK _ ?_; clear hK K)
    | (refine hX _ ?_; clear hX hY X Y)
    | (refine hY _ ?_; clear hX hY X Y)
    | (refine wp2_block ?_)
    | (refine wp1_block ?_)
    | (refine wp2_region ?_)
    | (refine wp1_region ?_)
    | (refine wp2_cond fun X Y hX hY => ?_)
    | (refine wp1_cond fun X Y hX hY => ?_)
    | (refine condK_of (fun c => ?_) (fun c => ?_) <;> (try simp [-List.length_eq_zero_iff] at c))
    | (refine guard1_or (fun c => ?_) (fun c => ?_) <;> (have cc := c) <;> (try simp [-List.length_eq_zero_iff] at cc) <;> (try simp (disch := omega) [t0, t1, encG, c]))
    | (simp (disch := omega) [t0, t1, encG]))
  all_goals try (simp [t0, t1, encG, Back]; done)
  omega
set_option maxHeartbeats 0 in
theorem lawLW_b (g : Gr) (p : List Int) (hg : smallG g) (hp : ¬ 1048576 < p.length) (hs : 1048576 < sumG g) : CallsF Try.prog 6 [.agg (encG g), .val (ints p)] (.t (.v (.bool true))) [] := by
  refine callsF_of_wp1 (fn := Try.f6) (k := k6) (fun _ => []) mixed (by kernel_rfl) rfl (by kernel_rfl) (by kernel_rfl) (by kernel_rfl) rfl (by simp [Try.f6]) (by simp [Arg.like]) ?_
  generalize hst : St.enter [.agg (encG g), .val (ints p)] = st0
  have t0 : st0.tm 0 = .agg ((encG g) |>.map .t) := by rw [← hst]; rfl
  have t1 : st0.tm 1 = .t (ints p) := by rw [← hst]; rfl
  clear hst
  unfold k6
  simp [encG] at t0
  repeat' (first
    | (refine wp2_seq fun K hK => ?_)
    | (refine wp1_seq fun K hK => ?_)
    | (refine M_cons fun K hK => ?_)
    | (refine hK _ ?_; clear hK K)
    | (clear hK K; refine hK _ ?_; clear hK K)
    | (clear hK K; clear hK K; refine hK _ ?_; clear hK K)
    | (clear hK K; clear hK K; clear hK K; refine hK _ ?_; clear hK K)
    | (refine hX _ ?_; clear hX hY X Y)
    | (refine hY _ ?_; clear hX hY X Y)
    | (refine wp2_block ?_)
    | (refine wp1_block ?_)
    | (refine wp2_region ?_)
    | (refine wp1_region ?_)
    | (refine wp2_cond fun X Y hX hY => ?_)
    | (refine wp1_cond fun X Y hX hY => ?_)
    | (refine condK_of (fun c => ?_) (fun c => ?_) <;> (try simp [-List.length_eq_zero_iff] at c))
    | (refine guard1_or (fun c => ?_) (fun c => ?_) <;> (have cc := c) <;> (try simp [-List.length_eq_zero_iff] at cc) <;> (try simp (disch := omega) [t0, t1, hs, encG, c]))
    | (refine callT_fl (szG g _ hg ?_ ?_) (by simp [St.args, St.arg, t0, t1, hs, encG] <;> first | rfl | ((repeat' first | rfl | apply And.intro); done)) (by first | (simp [RV.flat, RV.flats, T.flat]; done) | ((repeat' first | exact flat_intRow _ | exact trivial | constructor | unfold RV.flat | unfold RV.flats); done)) (by simp [mutsOf]) ?_; omega; omega)
    | (simp (disch := omega) [t0, t1, hs, encG]))
  all_goals try (simp [t0, t1, hs, encG, Back]; done)
  all_goals omega
theorem lawLW (g : Gr) (p : List Int) (hg : smallG g) (_ : ∀ n ∈ p, (Lit.int .i64 n).wf = true) : CallsF Try.prog 6 [.agg (encG g), .val (ints p)] (.t (.v (.bool true))) [] := by
  by_cases hp : 1048576 < p.length
  · exact lawLW_a g p hp
  · by_cases hs : 1048576 < sumG g
    · exact lawLW_b g p hg hp hs
    · by_cases hv : ∃ l, Lifts g p l
      · obtain ⟨l, hv⟩ := hv; exact lawLW_y g p l hg (by omega) (by omega) hv
      · exact lawLW_n g p hg (by omega) (by omega) fun l hl => hv ⟨l, hl⟩
end Cal
