import Derived.Test.YthaebckdhcnkfaaSim
set_option linter.unusedSimpArgs false
namespace Cal
open Go Go.Proofs
set_option maxRecDepth 100000
/-- The code of laws.eqInt64S. -/
def k24 : Code1 :=
  (.seq
    (.region [] false ([]) [
      ⟨some 4, Op.assign (Operand.const (Value.bool false)), none⟩])
    (.seq
      (.seq
        (.region [] false ([]) [
          ⟨some 6, Op.move (Operand.tmp 0), none⟩,
          ⟨some 7, Op.call { callee := Callee.builtin Builtin.len, args := #[Operand.tmp 6], argTypes := #[22] }, none⟩,
          ⟨some 8, Op.move (Operand.tmp 1), none⟩,
          ⟨some 9, Op.call { callee := Callee.builtin Builtin.len, args := #[Operand.tmp 8], argTypes := #[22] }, none⟩,
          ⟨some 10, Op.binOp BinOp.neq 3 (Operand.tmp 7) (Operand.tmp 9) 3, none⟩])
        (.cond (Operand.tmp 10)
          (.seq
            (.region [] false ([]) [
              ⟨some 4, Op.assign (Operand.const (Value.bool false)), none⟩])
            .ret)
          .skip))
      (.seq
        (.seq
          (.region [] false ([]) [
            ⟨some 5, Op.assign (Operand.const (Value.int IntKind.i64 0)), none⟩])
          (.block 0
            (.loop
              (.seq
                (.seq
                  (.region [] false ([]) [
                    ⟨some 11, Op.move (Operand.tmp 5), none⟩,
                    ⟨some 12, Op.move (Operand.tmp 0), none⟩,
                    ⟨some 13, Op.call { callee := Callee.builtin Builtin.len, args := #[Operand.tmp 12], argTypes := #[22] }, none⟩,
                    ⟨some 14, Op.binOp BinOp.lss 3 (Operand.tmp 11) (Operand.tmp 13) 3, none⟩])
                  (.cond (Operand.tmp 14)
                    .skip
                    (.exit 0)))
                (.seq
                  (.block 1
                    (.seq
                      (.region [] true ([]) [
                        ⟨some 17, Op.move (Operand.tmp 0), none⟩,
                        ⟨some 18, Op.move (Operand.tmp 5), none⟩,
                        ⟨some 19, Op.indexAddr 22 (Operand.tmp 17) (Operand.tmp 18), none⟩,
                        ⟨some 20, Op.load 2 (Operand.tmp 19), none⟩,
                        ⟨some 21, Op.move (Operand.tmp 1), none⟩,
                        ⟨some 22, Op.move (Operand.tmp 5), none⟩,
                        ⟨some 23, Op.indexAddr 22 (Operand.tmp 21) (Operand.tmp 22), none⟩,
                        ⟨some 24, Op.load 2 (Operand.tmp 23), none⟩,
                        ⟨some 25, Op.binOp BinOp.neq 2 (Operand.tmp 20) (Operand.tmp 24) 2, none⟩])
                      (.cond (Operand.tmp 25)
                        (.seq
                          (.region [] false ([]) [
                            ⟨some 4, Op.assign (Operand.const (Value.bool false)), none⟩])
                          .ret)
                        .skip)))
                  (.region [] false ([]) [
                    ⟨some 15, Op.move (Operand.tmp 5), none⟩,
                    ⟨some 16, Op.binOp BinOp.add 3 (Operand.tmp 15) (Operand.const (Value.int IntKind.i64 1)) 3, none⟩,
                    ⟨some 5, Op.assign (Operand.tmp 16), none⟩]))))))
        (.seq
          (.region [] false ([]) [
            ⟨some 4, Op.assign (Operand.const (Value.bool true)), none⟩])
          .ret))))
theorem eqI (a b : List Int) (ha : a.length ≤ 1048576) (hb : b.length ≤ 1048576) :
    CallsF Try.prog 24 [.val (ints a), .val (ints b)] (.t (.v (.bool (decide (a = b))))) [] := by
  refine callsF_of_wp1 (fn := Try.f24) (k := k24) (fun _ => []) mixed (by kernel_rfl) rfl (by kernel_rfl) (by kernel_rfl) (by kernel_rfl) rfl (by simp [Try.f24]) (by simp [Arg.like]) ?_
  generalize hst : St.enter [.val (ints a), .val (ints b)] = st0
  have t0 : st0.tm 0 = .t (ints a) := by rw [← hst]; rfl
  have t1 : st0.tm 1 = .t (ints b) := by rw [← hst]; rfl
  clear hst
  unfold k24
  repeat' (first
    | (refine wp1_seq fun K hK => ?_)
    | (refine M_cons fun K hK => ?_)
    | (refine hK _ ?_; clear hK K)
    | (refine hX _ ?_; clear hX hY X Y)
    | (refine hY _ ?_; clear hX hY X Y)
    | (refine wp1_block ?_)
    | (refine wp1_region ?_)
    | (refine wp1_cond fun X Y hX hY => ?_)
    | (refine condK_of (fun c => ?_) (fun c => ?_) <;> (try simp at c))
    | (refine guard1_or (fun c => ?_) (fun c => ?_) <;> (have cc := c) <;> (try simp at cc) <;> (try simp (disch := omega) [t0, t1, c]))
    | (simp (disch := omega) [t0, t1]))
  all_goals try (simp [t0, t1, Back]; done)
  · have : ¬ a = b := fun e => c (by rw [e])
    simp [Back, this]
  have hJ : a = b → ∀ s, K s := by
    rintro rfl s
    repeat' (first
      | (refine wp1_seq fun K hK => ?_)
      | (refine M_cons fun K hK => ?_)
      | (refine hK _ ?_; clear hK K)
      | (refine hX _ ?_; clear hX hY X Y)
      | (refine hY _ ?_; clear hX hY X Y)
      | (refine wp1_block ?_)
      | (refine wp1_region ?_)
      | (refine wp1_cond fun X Y hX hY => ?_)
      | (refine condK_of (fun c => ?_) (fun c => ?_) <;> (try simp at c))
      | (refine guard1_or (fun c => ?_) (fun c => ?_) <;> (have cc := c) <;> (try simp at cc) <;> (try simp (disch := omega) [c]))
      | (simp (disch := omega) []))
    all_goals try (simp [Back]; done)
  clear hK
  refine wp1_loop (fun n s => ∃ k : Nat, s.tm 0 = .t (ints a) ∧ s.tm 1 = .t (ints b) ∧ s.tm 5 = .t (.v (.int .i64 k)) ∧ k ≤ a.length ∧ n = a.length - k ∧ ∀ i < k, rd a i = rd b i) a.length ?_ ?_
  · exact ⟨0, by simp [t0, t1]⟩
  · rintro n s ⟨k, s0, s1, s5, hk, rfl, heq⟩ K' hK'
    repeat' (first
      | (refine wp1_seq fun K hK => ?_)
      | (refine M_cons fun K hK => ?_)
      | (refine hK _ ?_; clear hK K)
      | (refine hX _ ?_; clear hX hY X Y)
      | (refine hY _ ?_; clear hX hY X Y)
      | (refine wp1_block ?_)
      | (refine wp1_region ?_)
      | (refine wp1_cond fun X Y hX hY => ?_)
      | (refine condK_of (fun c => ?_) (fun c => ?_) <;> (try simp at c))
      | (refine guard1_or (fun c => ?_) (fun c => ?_) <;> (have cc := c) <;> (try simp at cc) <;> (try simp (disch := omega) [s0, s1, s5, c]))
      | (simp (disch := omega) [s0, s1, s5]))
    all_goals try (simp [s0, s1, s5, Back]; done)
    · have : ¬ a = b := fun e => c (by rw [e])
      simp [Back, this]
    · refine hK' (a.length - (k + 1)) _ (by omega) ⟨k + 1, ?_⟩
      simp [s0, s1, s5]
      exact ⟨by omega, below_succ heq c⟩
    · exact hJ (eq_of_rd (by omega) fun i hi => heq i (by omega)) _
structure Gr where
  edgeOf : List Int
  stateOf : List Int
  first : List Int
  to : List Int
  cost : List Int
  start : List Int
  weight : List Int
def encG (g : Gr) : List T := [ints g.edgeOf, ints g.stateOf, ints g.first, ints g.to, ints g.cost, ints g.start, ints g.weight]
def inR (x : Int) : Prop := 0 ≤ x ∧ x ≤ 1048576
noncomputable instance (x : Int) : Decidable (inR x) := Classical.propDecidable _

/-- A vertex is right. -/
def VOK (g : Gr) (i : Nat) : Prop := 0 ≤ rd g.edgeOf i ∧ rd g.edgeOf i < g.start.length ∧ 0 ≤ rd g.stateOf i ∧ rd g.stateOf i < 2000 ∧
  (0 < i → rd g.edgeOf ((i : Int) - 1) < rd g.edgeOf i ∨ (rd g.edgeOf ((i : Int) - 1) = rd g.edgeOf i ∧ rd g.stateOf ((i : Int) - 1) < rd g.stateOf i))

/-- A start is right. -/
def SOK (g : Gr) (i : Nat) : Prop := 0 ≤ rd g.start i ∧ rd g.start i < g.edgeOf.length ∧ rd g.edgeOf (rd g.start i) = i
/-- An arc is right. -/
def TOK (g : Gr) (k : Nat) : Prop := 0 ≤ rd g.to k ∧ rd g.to k < g.edgeOf.length ∧ 0 ≤ rd g.cost k ∧ rd g.cost k ≤ 3145728
/-- A vertex's arcs are in order. -/
def AOK (g : Gr) (i : Nat) : Prop := ∀ k : Int, rd g.first i < k → k < rd g.first ((i : Int) + 1) → rd g.edgeOf (rd g.to (k - 1)) < rd g.edgeOf (rd g.to k)

structure VG (g : Gr) : Prop where
  l1 : g.start.length ≤ 4000
  l2 : g.weight.length = g.start.length
  l3 : g.edgeOf.length ≤ 6000
  l4 : g.stateOf.length = g.edgeOf.length
  l5 : g.first.length = g.edgeOf.length + 1
  l6 : g.to.length = g.cost.length
  l7 : g.to.length ≤ 40000
  w : ∀ i < g.weight.length, inR (rd g.weight i)
  v : ∀ i < g.edgeOf.length, VOK g i
  s : ∀ i < g.start.length, SOK g i
  f0 : rd g.first 0 = 0
  fv : rd g.first g.edgeOf.length = g.to.length
  f : ∀ i < g.edgeOf.length, rd g.first i ≤ rd g.first ((i : Int) + 1)
  t : ∀ k < g.to.length, TOK g k
  a : ∀ i < g.edgeOf.length, AOK g i

noncomputable instance (g : Gr) : Decidable (VG g) := Classical.propDecidable _
@[simp] def objG (g : Gr) : Option Ob := some (.var [.t (ints g.edgeOf), .t (ints g.stateOf), .t (ints g.first), .t (ints g.to), .t (ints g.cost), .t (ints g.start), .t (ints g.weight)])
def GI (g : Gr) (s : St) : Prop := s.tm 1 = .ptr (1, 0) 0 0 ∧ s.ob (1, 0) = objG g ∧ s.tm 3 = .t (.v (.int .i64 g.start.length)) ∧ s.tm 4 = .t (.v (.int .i64 g.edgeOf.length))
theorem firsts {g : Gr} (f0 : rd g.first 0 = 0) (fv : rd g.first g.edgeOf.length = g.to.length) (hf : ∀ i : Nat, i < g.edgeOf.length → rd g.first i ≤ rd g.first ((i : Int) + 1)) : ∀ k : Nat, k ≤ g.edgeOf.length → 0 ≤ rd g.first k ∧ rd g.first k ≤ g.to.length := by
  intro k hk
  have up : ∀ k : Nat, k ≤ g.edgeOf.length → 0 ≤ rd g.first k := by
    intro k
    induction k with
    | zero => intro _; simp [f0]
    | succ k ih =>
      intro h
      have h1 := ih (by omega)
      have h2 := hf k (by omega)
      push_cast
      omega
  have down : ∀ m k : Nat, k + m = g.edgeOf.length → rd g.first k ≤ g.to.length := by
    intro m
    induction m with
    | zero => intro k h; rw [show k = g.edgeOf.length by omega, fv]; omega
    | succ m ih =>
      intro k h
      have h1 := ih (k + 1) (by omega)
      have h2 := hf k (by omega)
      push_cast at h1
      omega
  exact ⟨up k hk, down (g.edgeOf.length - k) k (by omega)⟩
/-- The code of impl.inRange. -/
def k43 : Code1 :=
  (.seq
    (.region [] false ([]) [
      ⟨some 2, Op.assign (Operand.const (Value.bool false)), none⟩])
    (.seq
      (.region [] false ([]) [
        ⟨some 3, Op.move (Operand.tmp 0), none⟩,
        ⟨some 4, Op.binOp BinOp.geq 2 (Operand.tmp 3) (Operand.const (Value.int IntKind.i64 0)) 2, none⟩,
        ⟨some 5, Op.move (Operand.tmp 4), none⟩,
        ⟨some 6, Op.move (Operand.tmp 0), some (5, true)⟩,
        ⟨some 7, Op.binOp BinOp.leq 2 (Operand.tmp 6) (Operand.const (Value.int IntKind.i64 1048576)) 2, some (5, true)⟩,
        ⟨some 8, Op.pick (Operand.tmp 5) (Operand.tmp 7) (Operand.const (Value.bool false)), none⟩,
        ⟨some 2, Op.assign (Operand.tmp 8), none⟩])
      .ret))
theorem inRange_c (x : Int) : CallsF Try.prog 43 [.val (.v (.int .i64 x))] (.t (.v (.bool (decide (inR x))))) [] := by
  refine callsF_of_wp1 (fn := Try.f43) (k := k43) (fun _ => []) mixed (by kernel_rfl) rfl (by kernel_rfl) (by kernel_rfl) (by kernel_rfl) rfl (by simp [Try.f43]) (by simp [Arg.like]) ?_
  generalize hst : St.enter [.val (.v (.int .i64 x))] = st0
  have t0 : st0.tm 0 = .t (.v (.int .i64 x)) := by rw [← hst]; rfl
  clear hst
  unfold k43
  repeat' (first
    | (refine wp1_seq fun K hK => ?_)
    | (refine M_cons fun K hK => ?_)
    | (refine hK _ ?_; clear hK K)
    | (refine hX _ ?_; clear hX hY X Y)
    | (refine hY _ ?_; clear hX hY X Y)
    | (refine wp1_block ?_)
    | (refine wp1_region ?_)
    | (refine wp1_cond fun X Y hX hY => ?_)
    | (refine condK_of (fun c => ?_) (fun c => ?_) <;> (try simp at c))
    | (refine guard1_or (fun c => ?_) (fun c => ?_) <;> (have cc := c) <;> (try simp at cc) <;> (try simp (disch := omega) [t0, c]))
    | (simp (disch := omega) [t0]))
  all_goals try (simp [t0, Back]; done)
  · by_cases h : x ≤ 1048576
    · have : inR x := ⟨cc, h⟩
      simp [Back, this, h]
    · have : ¬ inR x := fun hh => h hh.2
      simp [Back, this, h]
  · have : ¬ inR x := fun hh => by have := hh.1; omega
    simp [Back, this]
/-- The code of spec.l1In. -/
def k42 : Code1 :=
  (.seq
    (.region [] false ([]) [
      ⟨some 2, Op.assign (Operand.const (Value.bool false)), none⟩])
    (.seq
      (.region [] false ([]) [
        ⟨some 3, Op.move (Operand.tmp 0), none⟩,
        ⟨some 4, Op.binOp BinOp.geq 2 (Operand.tmp 3) (Operand.const (Value.int IntKind.i64 0)) 2, none⟩,
        ⟨some 5, Op.move (Operand.tmp 4), none⟩,
        ⟨some 6, Op.move (Operand.tmp 0), some (5, true)⟩,
        ⟨some 7, Op.binOp BinOp.leq 2 (Operand.tmp 6) (Operand.const (Value.int IntKind.i64 1048576)) 2, some (5, true)⟩,
        ⟨some 8, Op.pick (Operand.tmp 5) (Operand.tmp 7) (Operand.const (Value.bool false)), none⟩,
        ⟨some 2, Op.assign (Operand.tmp 8), none⟩])
      .ret))
theorem l1In_c (x : Int) : CallsF Try.prog 42 [.val (.v (.int .i64 x))] (.t (.v (.bool (decide (inR x))))) [] := by
  refine callsF_of_wp1 (fn := Try.f42) (k := k42) (fun _ => []) mixed (by kernel_rfl) rfl (by kernel_rfl) (by kernel_rfl) (by kernel_rfl) rfl (by simp [Try.f42]) (by simp [Arg.like]) ?_
  generalize hst : St.enter [.val (.v (.int .i64 x))] = st0
  have t0 : st0.tm 0 = .t (.v (.int .i64 x)) := by rw [← hst]; rfl
  clear hst
  unfold k42
  repeat' (first
    | (refine wp1_seq fun K hK => ?_)
    | (refine M_cons fun K hK => ?_)
    | (refine hK _ ?_; clear hK K)
    | (refine hX _ ?_; clear hX hY X Y)
    | (refine hY _ ?_; clear hX hY X Y)
    | (refine wp1_block ?_)
    | (refine wp1_region ?_)
    | (refine wp1_cond fun X Y hX hY => ?_)
    | (refine condK_of (fun c => ?_) (fun c => ?_) <;> (try simp at c))
    | (refine guard1_or (fun c => ?_) (fun c => ?_) <;> (have cc := c) <;> (try simp at cc) <;> (try simp (disch := omega) [t0, c]))
    | (simp (disch := omega) [t0]))
  all_goals try (simp [t0, Back]; done)
  · by_cases h : x ≤ 1048576
    · have : inR x := ⟨cc, h⟩
      simp [Back, this, h]
    · have : ¬ inR x := fun hh => h hh.2
      simp [Back, this, h]
  · have : ¬ inR x := fun hh => by have := hh.1; omega
    simp [Back, this]
end Cal
