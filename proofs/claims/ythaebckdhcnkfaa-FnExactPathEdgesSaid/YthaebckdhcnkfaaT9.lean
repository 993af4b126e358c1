import Derived.Test.YthaebckdhcnkfaaT5
import Derived.Test.YthaebckdhcnkfaaVI
import Derived.Test.YthaebckdhcnkfaaVS
set_option linter.unusedSimpArgs false
set_option linter.unusedVariables false
namespace Cal
open Go Go.Proofs
set_option maxRecDepth 100000
/-! ### arcs -/
def scan (p : Int → Bool) : Nat → Int → Int
  | 0, _ => -1
  | n + 1, k => if p k = true then k else scan p n (k + 1)
theorem scan_step {p : Int → Bool} {k hi : Int} (h : k < hi) : scan p (hi - k).toNat k = if p k = true then k else scan p (hi - (k + 1)).toNat (k + 1) := by
  have : (hi - k).toNat = (hi - (k + 1)).toNat + 1 := by omega
  rw [this]
  rfl
theorem scan_end {p : Int → Bool} {k hi : Int} (h : hi ≤ k) : scan p (hi - k).toNat k = -1 := by
  have : (hi - k).toNat = 0 := by omega
  rw [this]
  rfl
theorem scan_found {p : Int → Bool} : ∀ {n : Nat} {k : Int}, 0 ≤ k → 0 ≤ scan p n k → k ≤ scan p n k ∧ scan p n k < k + n ∧ p (scan p n k) = true
  | 0, k, hk, h => by simp [scan] at h
  | n + 1, k, hk, h => by
    unfold scan at h ⊢
    split
    · rename_i hp
      exact ⟨Int.le_refl _, by omega, hp⟩
    · rename_i hp
      rw [if_neg hp] at h
      have := scan_found (by omega) h
      exact ⟨by omega, by omega, this.2.2⟩
theorem scan_least {p : Int → Bool} : ∀ {n : Nat} {k j : Int}, 0 ≤ k → k ≤ j → j < k + n → p j = true → 0 ≤ scan p n k ∧ scan p n k ≤ j
  | 0, k, j, hk, h1, h2, _ => by omega
  | n + 1, k, j, hk, h1, h2, hp => by
    unfold scan
    split
    · exact ⟨hk, h1⟩
    · rename_i hn
      have : k ≠ j := fun e => hn (e ▸ hp)
      exact scan_least (by omega) (by omega) (by omega) hp
theorem scan_le {p : Int → Bool} : ∀ {n : Nat} {k : Int}, 0 ≤ k → -1 ≤ scan p n k ∧ scan p n k < k + n
  | 0, k, hk => by simp [scan]; omega
  | n + 1, k, hk => by
    unfold scan
    split
    · omega
    · have := scan_le (p := p) (n := n) (k := k + 1) (by omega)
      omega
def arcW (g : Gr) (v w : Int) : Int := scan (fun k => rd g.to k == w) (rd g.first (v + 1) - rd g.first v).toNat (rd g.first v)
def arcE (g : Gr) (v e : Int) : Int := scan (fun k => rd g.edgeOf (rd g.to k) == e) (rd g.first (v + 1) - rd g.first v).toNat (rd g.first v)
theorem VG.firstI {g : Gr} (h : VG g) {v : Int} (h0 : 0 ≤ v) (h1 : v ≤ g.edgeOf.length) : 0 ≤ rd g.first v ∧ rd g.first v ≤ g.to.length := by
  have := firsts h.f0 h.fv h.f v.toNat (by omega)
  rw [Int.toNat_of_nonneg h0] at this
  exact this
theorem VG.toI {g : Gr} (h : VG g) {k : Int} (h0 : 0 ≤ k) (h1 : k < g.to.length) : 0 ≤ rd g.to k ∧ rd g.to k < g.edgeOf.length ∧ 0 ≤ rd g.cost k ∧ rd g.cost k ≤ 3145728 := by
  have := h.t k.toNat (by omega)
  unfold TOK at this
  rw [Int.toNat_of_nonneg h0] at this
  exact this
theorem VG.edgeI {g : Gr} (h : VG g) {v : Int} (h0 : 0 ≤ v) (h1 : v < g.edgeOf.length) : 0 ≤ rd g.edgeOf v ∧ rd g.edgeOf v < g.start.length := by
  have := h.v v.toNat (by omega)
  unfold VOK at this
  rw [Int.toNat_of_nonneg h0] at this
  exact ⟨this.1, this.2.1⟩
theorem VG.weightI {g : Gr} (h : VG g) {v : Int} (h0 : 0 ≤ v) (h1 : v < g.weight.length) : 0 ≤ rd g.weight v ∧ rd g.weight v ≤ 1048576 := by
  have := h.w v.toNat (by omega)
  unfold inR at this
  rw [Int.toNat_of_nonneg h0] at this
  exact this
def GA (g : Gr) (s : St) : Prop := s.tm 3 = .ptr (3, 0) 0 0 ∧ s.ob (3, 0) = objG g
/-- The code of spec.l4Arc. -/
def k52 : Code1 :=
  (.seq
    (.region [3] false ([]) [
      ⟨some 3, Op.box 27 (Operand.tmp 0), none⟩,
      ⟨some 6, Op.assign (Operand.const (Value.int IntKind.i64 0)), none⟩])
    (.seq
      (.seq
        (.region [] false ([]) [
          ⟨some 8, Op.fieldAddr 27 (Operand.tmp 3) 2, none⟩,
          ⟨some 9, Op.load 22 (Operand.tmp 8), none⟩,
          ⟨some 10, Op.move (Operand.tmp 1), none⟩,
          ⟨some 11, Op.indexAddr 22 (Operand.tmp 9) (Operand.tmp 10), none⟩,
          ⟨some 12, Op.load 2 (Operand.tmp 11), none⟩,
          ⟨some 7, Op.assign (Operand.tmp 12), none⟩])
        (.block 0
          (.loop
            (.seq
              (.seq
                (.region [] false ([]) [
                  ⟨some 13, Op.move (Operand.tmp 7), none⟩,
                  ⟨some 14, Op.fieldAddr 27 (Operand.tmp 3) 2, none⟩,
                  ⟨some 15, Op.load 22 (Operand.tmp 14), none⟩,
                  ⟨some 16, Op.move (Operand.tmp 1), none⟩,
                  ⟨some 17, Op.binOp BinOp.add 2 (Operand.tmp 16) (Operand.const (Value.int IntKind.i64 1)) 2, none⟩,
                  ⟨some 18, Op.indexAddr 22 (Operand.tmp 15) (Operand.tmp 17), none⟩,
                  ⟨some 19, Op.load 2 (Operand.tmp 18), none⟩,
                  ⟨some 20, Op.binOp BinOp.lss 2 (Operand.tmp 13) (Operand.tmp 19) 2, none⟩])
                (.cond (Operand.tmp 20)
                  .skip
                  (.exit 0)))
              (.seq
                (.block 1
                  (.seq
                    (.region [] false ([]) [
                      ⟨some 23, Op.fieldAddr 27 (Operand.tmp 3) 3, none⟩,
                      ⟨some 24, Op.load 22 (Operand.tmp 23), none⟩,
                      ⟨some 25, Op.move (Operand.tmp 7), none⟩,
                      ⟨some 26, Op.indexAddr 22 (Operand.tmp 24) (Operand.tmp 25), none⟩,
                      ⟨some 27, Op.load 2 (Operand.tmp 26), none⟩,
                      ⟨some 28, Op.move (Operand.tmp 2), none⟩,
                      ⟨some 29, Op.binOp BinOp.eql 2 (Operand.tmp 27) (Operand.tmp 28) 2, none⟩])
                    (.cond (Operand.tmp 29)
                      (.seq
                        (.region [] false ([]) [
                          ⟨some 30, Op.move (Operand.tmp 7), none⟩,
                          ⟨some 6, Op.assign (Operand.tmp 30), none⟩])
                        .ret)
                      .skip)))
                (.region [] false ([]) [
                  ⟨some 21, Op.move (Operand.tmp 7), none⟩,
                  ⟨some 22, Op.binOp BinOp.add 2 (Operand.tmp 21) (Operand.const (Value.int IntKind.i64 1)) 2, none⟩,
                  ⟨some 7, Op.assign (Operand.tmp 22), none⟩]))))))
      (.seq
        (.region [] false ([]) [
          ⟨some 6, Op.assign (Operand.const (Value.int IntKind.i64 (-1))), none⟩])
        .ret)))
set_option maxHeartbeats 0 in
theorem arcW_c (g : Gr) (v w : Int) (hg : VG g) (h0 : 0 ≤ v) (h1 : v < g.edgeOf.length) : CallsF Try.prog 52 [.agg (encG g), .val (.v (.int .i64 v)), .val (.v (.int .i64 w))] (.t (.v (.int .i64 (arcW g v w)))) [] := by
  have l3 := hg.l3
  have l5 := hg.l5
  have l7 := hg.l7
  have b1 := hg.firstI (v := v) h0 (by omega)
  have b2 := hg.firstI (v := v + 1) (by omega) (by omega)
  refine callsF_of_wp1 (fn := Try.f52) (k := k52) (fun _ => []) mixed (by kernel_rfl) rfl (by kernel_rfl) (by kernel_rfl) (by kernel_rfl) rfl (by simp [Try.f52]) (by simp [Arg.like]) ?_
  generalize hst : St.enter [.agg (encG g), .val (.v (.int .i64 v)), .val (.v (.int .i64 w))] = st0
  have t0 : st0.tm 0 = .agg ((encG g) |>.map .t) := by rw [← hst]; rfl
  have t1 : st0.tm 1 = .t (.v (.int .i64 v)) := by rw [← hst]; rfl
  have t2 : st0.tm 2 = .t (.v (.int .i64 w)) := by rw [← hst]; rfl
  clear hst
  unfold k52
  simp [encG] at t0
  repeat' (first
    | (refine wp2_seq fun K hK => ?_)
    | (refine wp1_seq fun K hK => ?_)
    | (refine M_cons fun K hK => ?_)
    | (refine hK _ ?_; clear hK K)
    | (refine hX _ ?_; clear hX hY X Y)
    | (refine hY _ ?_; clear hX hY X Y)
    | (refine wp2_block ?_)
    | (refine wp1_block ?_)
    | (refine wp2_region ?_)
    | (refine wp1_region ?_)
    | (refine wp2_cond fun X Y hX hY => ?_)
    | (refine wp1_cond fun X Y hX hY => ?_)
    | (refine condK_of (fun c => ?_) (fun c => ?_) <;> (try simp at c))
    | (refine guard1_or (fun c => ?_) (fun c => ?_) <;> (have cc := c) <;> (try simp at cc) <;> (try simp (disch := omega) [t0, t1, t2, c]))
    | (simp (disch := omega) [t0, t1, t2]))
  all_goals try (simp [t0, t1, t2, Back]; done)
  have hJ : ∀ s, arcW g v w = -1 → K s := by
    intro s hs
    repeat' (first
      | (refine wp2_seq fun K hK => ?_)
      | (refine wp1_seq fun K hK => ?_)
      | (refine M_cons fun K hK => ?_)
      | (refine hK _ ?_; clear hK K)
      | (refine hX _ ?_; clear hX hY X Y)
      | (refine hY _ ?_; clear hX hY X Y)
      | (refine wp2_block ?_)
      | (refine wp1_block ?_)
      | (refine wp2_region ?_)
      | (refine wp1_region ?_)
      | (refine wp2_cond fun X Y hX hY => ?_)
      | (refine wp1_cond fun X Y hX hY => ?_)
      | (refine condK_of (fun c => ?_) (fun c => ?_) <;> (try simp at c))
      | (refine guard1_or (fun c => ?_) (fun c => ?_) <;> (have cc := c) <;> (try simp at cc) <;> (try simp (disch := omega) [hs, c]))
      | (simp (disch := omega) [hs]))
    all_goals try (simp [hs, Back]; done)
  clear hK
  refine wp1_loop (fun n s => ∃ k : Int, GA g s ∧ s.tm 1 = .t (.v (.int .i64 v)) ∧ s.tm 2 = .t (.v (.int .i64 w)) ∧ s.tm 7 = .t (.v (.int .i64 k)) ∧ 0 ≤ k ∧ k ≤ g.to.length ∧ n = (g.to.length - k).toNat ∧ arcW g v w = scan (fun k => rd g.to k == w) (rd g.first (v + 1) - k).toNat k) (g.to.length - rd g.first v).toNat ?_ ?_
  · refine ⟨rd g.first v, ?_⟩
    simp [GA, t1, t2]
    exact ⟨b1.1, b1.2, rfl⟩
  · rintro n s ⟨k, ⟨s3, o⟩, s1, s2, s7, hk0, hk1, rfl, hs⟩ K' hK'
    repeat' (first
      | (refine wp2_seq fun K hK => ?_)
      | (refine wp1_seq fun K hK => ?_)
      | (refine M_cons fun K hK => ?_)
      | (refine hK _ ?_; clear hK K)
      | (refine hX _ ?_; clear hX hY X Y)
      | (refine hY _ ?_; clear hX hY X Y)
      | (refine wp2_block ?_)
      | (refine wp1_block ?_)
      | (refine wp2_region ?_)
      | (refine wp1_region ?_)
      | (refine wp2_cond fun X Y hX hY => ?_)
      | (refine wp1_cond fun X Y hX hY => ?_)
      | (refine condK_of (fun c => ?_) (fun c => ?_) <;> (try simp at c))
      | (refine guard1_or (fun c => ?_) (fun c => ?_) <;> (have cc := c) <;> (try simp at cc) <;> (try simp (disch := omega) [s3, o, s1, s2, s7, c]))
      | (simp (disch := omega) [s3, o, s1, s2, s7]))
    all_goals try (simp [s3, o, s1, s2, s7, Back]; done)
    · rename_i hlt
      rw [scan_step hlt] at hs
      have : rd g.to k = w := by simpa using c
      simp [this] at hs
      simp [Back, hs]
    · rename_i hlt
      rw [scan_step hlt] at hs
      have hne : ¬ rd g.to k = w := by simpa using c
      simp [hne] at hs
      refine hK' (g.to.length - (k + 1)).toNat _ (by omega) ⟨k + 1, ?_⟩
      simp [GA, s3, o, s1, s2]
      exact ⟨by omega, by omega, hs⟩
    · refine hJ _ ?_
      rw [hs, scan_end (by omega)]
/-- The code of impl.arcTo. -/
def k55 : Code1 :=
  (.seq
    (.region [3] false ([]) [
      ⟨some 3, Op.box 27 (Operand.tmp 0), none⟩,
      ⟨some 6, Op.assign (Operand.const (Value.int IntKind.i64 0)), none⟩])
    (.seq
      (.seq
        (.region [] false ([]) [
          ⟨some 8, Op.fieldAddr 27 (Operand.tmp 3) 2, none⟩,
          ⟨some 9, Op.load 22 (Operand.tmp 8), none⟩,
          ⟨some 10, Op.move (Operand.tmp 1), none⟩,
          ⟨some 11, Op.indexAddr 22 (Operand.tmp 9) (Operand.tmp 10), none⟩,
          ⟨some 12, Op.load 2 (Operand.tmp 11), none⟩,
          ⟨some 7, Op.assign (Operand.tmp 12), none⟩])
        (.block 0
          (.loop
            (.seq
              (.seq
                (.region [] false ([]) [
                  ⟨some 13, Op.move (Operand.tmp 7), none⟩,
                  ⟨some 14, Op.fieldAddr 27 (Operand.tmp 3) 2, none⟩,
                  ⟨some 15, Op.load 22 (Operand.tmp 14), none⟩,
                  ⟨some 16, Op.move (Operand.tmp 1), none⟩,
                  ⟨some 17, Op.binOp BinOp.add 2 (Operand.tmp 16) (Operand.const (Value.int IntKind.i64 1)) 2, none⟩,
                  ⟨some 18, Op.indexAddr 22 (Operand.tmp 15) (Operand.tmp 17), none⟩,
                  ⟨some 19, Op.load 2 (Operand.tmp 18), none⟩,
                  ⟨some 20, Op.binOp BinOp.lss 2 (Operand.tmp 13) (Operand.tmp 19) 2, none⟩])
                (.cond (Operand.tmp 20)
                  .skip
                  (.exit 0)))
              (.seq
                (.block 1
                  (.seq
                    (.region [] true ([]) [
                      ⟨some 23, Op.fieldAddr 27 (Operand.tmp 3) 0, none⟩,
                      ⟨some 24, Op.load 22 (Operand.tmp 23), none⟩,
                      ⟨some 25, Op.fieldAddr 27 (Operand.tmp 3) 3, none⟩,
                      ⟨some 26, Op.load 22 (Operand.tmp 25), none⟩,
                      ⟨some 27, Op.move (Operand.tmp 7), none⟩,
                      ⟨some 28, Op.indexAddr 22 (Operand.tmp 26) (Operand.tmp 27), none⟩,
                      ⟨some 29, Op.load 2 (Operand.tmp 28), none⟩,
                      ⟨some 30, Op.indexAddr 22 (Operand.tmp 24) (Operand.tmp 29), none⟩,
                      ⟨some 31, Op.load 2 (Operand.tmp 30), none⟩,
                      ⟨some 32, Op.move (Operand.tmp 2), none⟩,
                      ⟨some 33, Op.binOp BinOp.eql 2 (Operand.tmp 31) (Operand.tmp 32) 2, none⟩])
                    (.cond (Operand.tmp 33)
                      (.seq
                        (.region [] false ([]) [
                          ⟨some 34, Op.move (Operand.tmp 7), none⟩,
                          ⟨some 6, Op.assign (Operand.tmp 34), none⟩])
                        .ret)
                      .skip)))
                (.region [] false ([]) [
                  ⟨some 21, Op.move (Operand.tmp 7), none⟩,
                  ⟨some 22, Op.binOp BinOp.add 2 (Operand.tmp 21) (Operand.const (Value.int IntKind.i64 1)) 2, none⟩,
                  ⟨some 7, Op.assign (Operand.tmp 22), none⟩]))))))
      (.seq
        (.region [] false ([]) [
          ⟨some 6, Op.assign (Operand.const (Value.int IntKind.i64 (-1))), none⟩])
        .ret)))
set_option maxHeartbeats 0 in
theorem arcE_c (g : Gr) (v e : Int) (hg : VG g) (h0 : 0 ≤ v) (h1 : v < g.edgeOf.length) : CallsF Try.prog 55 [.agg (encG g), .val (.v (.int .i64 v)), .val (.v (.int .i64 e))] (.t (.v (.int .i64 (arcE g v e)))) [] := by
  have l3 := hg.l3
  have l5 := hg.l5
  have l7 := hg.l7
  have b1 := hg.firstI (v := v) h0 (by omega)
  have b2 := hg.firstI (v := v + 1) (by omega) (by omega)
  refine callsF_of_wp1 (fn := Try.f55) (k := k55) (fun _ => []) mixed (by kernel_rfl) rfl (by kernel_rfl) (by kernel_rfl) (by kernel_rfl) rfl (by simp [Try.f55]) (by simp [Arg.like]) ?_
  generalize hst : St.enter [.agg (encG g), .val (.v (.int .i64 v)), .val (.v (.int .i64 e))] = st0
  have t0 : st0.tm 0 = .agg ((encG g) |>.map .t) := by rw [← hst]; rfl
  have t1 : st0.tm 1 = .t (.v (.int .i64 v)) := by rw [← hst]; rfl
  have t2 : st0.tm 2 = .t (.v (.int .i64 e)) := by rw [← hst]; rfl
  clear hst
  unfold k55
  simp [encG] at t0
  repeat' (first
    | (refine wp2_seq fun K hK => ?_)
    | (refine wp1_seq fun K hK => ?_)
    | (refine M_cons fun K hK => ?_)
    | (refine hK _ ?_; clear hK K)
    | (refine hX _ ?_; clear hX hY X Y)
    | (refine hY _ ?_; clear hX hY X Y)
    | (refine wp2_block ?_)
    | (refine wp1_block ?_)
    | (refine wp2_region ?_)
    | (refine wp1_region ?_)
    | (refine wp2_cond fun X Y hX hY => ?_)
    | (refine wp1_cond fun X Y hX hY => ?_)
    | (refine condK_of (fun c => ?_) (fun c => ?_) <;> (try simp at c))
    | (refine guard1_or (fun c => ?_) (fun c => ?_) <;> (have cc := c) <;> (try simp at cc) <;> (try simp (disch := omega) [t0, t1, t2, c]))
    | (simp (disch := omega) [t0, t1, t2]))
  all_goals try (simp [t0, t1, t2, Back]; done)
  have hJ : ∀ s, arcE g v e = -1 → K s := by
    intro s hs
    repeat' (first
      | (refine wp2_seq fun K hK => ?_)
      | (refine wp1_seq fun K hK => ?_)
      | (refine M_cons fun K hK => ?_)
      | (refine hK _ ?_; clear hK K)
      | (refine hX _ ?_; clear hX hY X Y)
      | (refine hY _ ?_; clear hX hY X Y)
      | (refine wp2_block ?_)
      | (refine wp1_block ?_)
      | (refine wp2_region ?_)
      | (refine wp1_region ?_)
      | (refine wp2_cond fun X Y hX hY => ?_)
      | (refine wp1_cond fun X Y hX hY => ?_)
      | (refine condK_of (fun c => ?_) (fun c => ?_) <;> (try simp at c))
      | (refine guard1_or (fun c => ?_) (fun c => ?_) <;> (have cc := c) <;> (try simp at cc) <;> (try simp (disch := omega) [hs, c]))
      | (simp (disch := omega) [hs]))
    all_goals try (simp [hs, Back]; done)
  clear hK
  refine wp1_loop (fun n s => ∃ k : Int, GA g s ∧ s.tm 1 = .t (.v (.int .i64 v)) ∧ s.tm 2 = .t (.v (.int .i64 e)) ∧ s.tm 7 = .t (.v (.int .i64 k)) ∧ 0 ≤ k ∧ k ≤ g.to.length ∧ n = (g.to.length - k).toNat ∧ arcE g v e = scan (fun k => rd g.edgeOf (rd g.to k) == e) (rd g.first (v + 1) - k).toNat k) (g.to.length - rd g.first v).toNat ?_ ?_
  · refine ⟨rd g.first v, ?_⟩
    simp [GA, t1, t2]
    exact ⟨b1.1, b1.2, rfl⟩
  · rintro n s ⟨k, ⟨s3, o⟩, s1, s2, s7, hk0, hk1, rfl, hs⟩ K' hK'
    have b3 : k < g.to.length → 0 ≤ rd g.to k ∧ rd g.to k < g.edgeOf.length := fun h => by have := hg.toI hk0 h; omega
    repeat' (first
      | (refine wp2_seq fun K hK => ?_)
      | (refine wp1_seq fun K hK => ?_)
      | (refine M_cons fun K hK => ?_)
      | (refine hK _ ?_; clear hK K)
      | (refine hX _ ?_; clear hX hY X Y)
      | (refine hY _ ?_; clear hX hY X Y)
      | (refine wp2_block ?_)
      | (refine wp1_block ?_)
      | (refine wp2_region ?_)
      | (refine wp1_region ?_)
      | (refine wp2_cond fun X Y hX hY => ?_)
      | (refine wp1_cond fun X Y hX hY => ?_)
      | (refine condK_of (fun c => ?_) (fun c => ?_) <;> (try simp at c))
      | (refine guard1_or (fun c => ?_) (fun c => ?_) <;> (have cc := c) <;> (try simp at cc) <;> (try simp (disch := omega) [s3, o, s1, s2, s7, c]))
      | (simp (disch := omega) [s3, o, s1, s2, s7]))
    all_goals try (simp [s3, o, s1, s2, s7, Back]; done)
    · rename_i hlt
      rw [scan_step hlt] at hs
      have : rd g.edgeOf (rd g.to k) = e := by simpa using c
      simp [this] at hs
      simp [Back, hs]
    · rename_i hlt
      rw [scan_step hlt] at hs
      have hne : ¬ rd g.edgeOf (rd g.to k) = e := by simpa using c
      simp [hne] at hs
      refine hK' (g.to.length - (k + 1)).toNat _ (by omega) ⟨k + 1, ?_⟩
      simp [GA, s3, o, s1, s2]
      exact ⟨by omega, by omega, hs⟩
    · refine hJ _ ?_
      rw [hs, scan_end (by omega)]
end Cal
