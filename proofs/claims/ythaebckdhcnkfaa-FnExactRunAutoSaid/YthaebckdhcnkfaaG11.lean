/- A part of the proof: a calculus of our own over the model's code, and contracts of the program's functions. -/
import Derived.Test.YthaebckdhcnkfaaG1
import Derived.Test.YthaebckdhcnkfaaG8
import Derived.Test.YthaebckdhcnkfaaG9
import Derived.Test.YthaebckdhcnkfaaG10
/- A calculus of our own: more rules for reckoning: maps. -/
set_option linter.unusedSimpArgs false
set_option linter.unusedVariables false
namespace Cal
open Go Go.Proofs
attribute [simp] fillA
/-- Entries of a map, as abstract values and as values. -/
def vmap {α : Type} (f : α → Value) (kvs : List (MK × α)) : List (MK × AV) := kvs.map fun p => (p.1, .t (.v (f p.2)))
def vmapT {α : Type} (f : α → Value) (kvs : List (MK × α)) : List (MK × Value) := kvs.map fun p => (p.1, f p.2)
@[simp] theorem vmap_nil {α : Type} (f : α → Value) : vmap f [] = [] := rfl
theorem mset_vmap {α : Type} (f : α → Value) (k : MK) (x : α) : ∀ kvs : List (MK × α), mset (vmap f kvs) k (.t (.v (f x))) = vmap f (mset kvs k x)
  | [] => rfl
  | p :: l => by
    have ih := mset_vmap f k x l
    simp only [vmap, List.map_cons, mset] at *
    split
    · rfl
    · rw [ih]; rfl
theorem mget_vmap {α : Type} (f : α → Value) (k : MK) : ∀ kvs : List (MK × α), mget (vmap f kvs) k = (mget kvs k).map fun x => .t (.v (f x))
  | [] => rfl
  | p :: l => by
    have ih := mget_vmap f k l
    simp only [vmap, List.map_cons, mget] at *
    split
    · rfl
    · exact ih
theorem mget_vmapT {α : Type} (f : α → Value) (k : MK) : ∀ kvs : List (MK × α), mget (vmapT f kvs) k = (mget kvs k).map f
  | [] => rfl
  | p :: l => by
    have ih := mget_vmapT f k l
    simp only [vmapT, List.map_cons, mget] at *
    split
    · rfl
    · exact ih
@[simp] theorem flat_vmap {α : Type} (f : α → Value) : ∀ kvs : List (MK × α), flatVals (vmap f kvs) = some (vmapT f kvs)
  | [] => rfl
  | p :: l => by
    have ih := flat_vmap f l
    simp only [vmap, vmapT, List.map_cons, flatVals] at *
    rw [ih]
    rfl
@[simp] theorem vmap_T {α : Type} (f : α → Value) (kvs : List (MK × α)) : ((vmapT f kvs).map fun p => (p.1, AV.t (.v p.2))) = vmap f kvs := by
  simp [vmap, vmapT]
@[simp] theorem kill_vmap {α : Type} (ds : List Nat) (f : α → Value) (kvs : List (MK × α)) : ((vmap f kvs).map fun p => (p.1, p.2.kill ds)) = vmap f kvs := by
  simp [vmap]
@[simp] theorem kill1_vmap {α : Type} (q : Id) (f : α → Value) (kvs : List (MK × α)) : ((vmap f kvs).map fun p => (p.1, p.2.kill1 q)) = vmap f kvs := by
  simp [vmap]
@[simp] theorem ren_vmap {α : Type} (r : Id → Id) (f : α → Value) (kvs : List (MK × α)) : ((vmap f kvs).map fun p => (p.1, p.2.renG r)) = vmap f kvs := by
  simp [vmap]
theorem mget_mset {α : Type} (k k' : MK) (x : α) : ∀ kvs : List (MK × α), mget (mset kvs k x) k' = if k = k' then some x else mget kvs k'
  | [] => by simp [mset, mget]
  | p :: l => by
    have ih := mget_mset k k' x l
    unfold mset
    by_cases h : p.1 = k
    · rw [if_pos h]
      by_cases h2 : k = k'
      · simp [mget, h2]
      · have : ¬ p.1 = k' := fun e => h2 (h.symm.trans e)
        simp [mget, h2, this]
    · rw [if_neg h]
      unfold mget
      by_cases h3 : p.1 = k'
      · have : ¬ k = k' := fun e => h (h3.trans e.symm)
        simp [h3, this]
      · simp [h3, ih]
theorem in64_of {n : Int} (h0 : -9223372036854775808 ≤ n) (h1 : n < 9223372036854775808) : in64 n = true := by simp [in64, h0, h1]
@[simp] theorem keyA_i (n : Int) (h0 : -9223372036854775808 ≤ n) (h1 : n < 9223372036854775808) : keyA 0 (.t (.v (.int .i64 n))) = some (.i n) := by simp [keyA, in64_of h0 h1]
@[simp] theorem keyA_p (a b : Int) (h0 : -9223372036854775808 ≤ a) (h1 : a < 9223372036854775808) (h2 : -9223372036854775808 ≤ b) (h3 : b < 9223372036854775808) : keyA 1 (.agg [.t (.v (.int .i64 a)), .t (.v (.int .i64 b))]) = some (.p a b) := by simp [keyA, in64_of h0 h1, in64_of h2 h3]
/-- A lookup, its key and its map known. -/
def lookB (z : Value) (ok : Bool) (kd : Nat) (k : MK) (o : Option Ob) : Option (AV × Eff) :=
  match o with
  | some (.map kd' kvs) => if kd' = kd then some (lookR ok z (mget kvs k), []) else none
  | some (.fmap kd' kvs) => if kd' = kd then some (lookR ok z ((mget kvs k).map fun x => .t (.v x)), []) else none
  | _ => none
def lookK (z : Value) (ok : Bool) (st : St) (kd : Nat) (x : AV) : Option MK → Option (AV × Eff)
  | none => none
  | some k => match x with
    | .t (.v (.map none)) => some (lookR ok z none, [])
    | .t (.mp kd' kvs) => if kd' = kd then some (lookR ok z ((mget kvs k).map fun x => .t (.v x)), []) else none
    | .mp id => lookB z ok kd k (st.ob id)
    | _ => none
@[simp] theorem lookA_def (st : St) (kt kd : Nat) (z : Value) (ok : Bool) (x k : AV) : lookA st (some ⟨kt, kd, z⟩) ok x k = lookK z ok st kd x (keyA kd k) := by
  unfold lookA lookK
  dsimp only
  cases keyA kd k with
  | none => rfl
  | some key => dsimp only; split <;> first | rfl | (split <;> first | rfl | (simp_all; done))
@[simp] theorem lookK_T {α : Type} (z : Value) (st : St) (kd : Nat) (f : α → Value) (kvs : List (MK × α)) (k : MK) (ok : Bool) : lookK z ok st kd (.t (.mp kd (vmapT f kvs))) (some k) = some (lookR ok z ((mget kvs k).map fun x => .t (.v (f x))), []) := by
  simp [lookK, mget_vmapT]
  rfl
@[simp] theorem lookK_mp (z : Value) (st : St) (kd : Nat) (id : Id) (k : MK) (ok : Bool) : lookK z ok st kd (.mp id) (some k) = lookB z ok kd k (st.ob id) := rfl
@[simp] theorem lookB_v {α : Type} (z : Value) (kd : Nat) (f : α → Value) (kvs : List (MK × α)) (k : MK) (ok : Bool) : lookB z ok kd k (some (.map kd (vmap f kvs))) = some (lookR ok z ((mget kvs k).map fun x => .t (.v (f x))), []) := by
  simp [lookB, mget_vmap]
@[simp] theorem lookR_ti (z : Int) (o : Option Int) : lookR true (.int .i64 z) (o.map fun x => .t (.v (.int .i64 x))) = .tup [.t (.v (.int .i64 (o.getD z))), .t (.v (.bool o.isSome))] := by cases o <;> rfl
@[simp] theorem lookR_fi (z : Int) (o : Option Int) : lookR false (.int .i64 z) (o.map fun x => .t (.v (.int .i64 x))) = .t (.v (.int .i64 (o.getD z))) := by cases o <;> rfl
@[simp] theorem lookR_fb (z : Bool) (o : Option Bool) : lookR false (.bool z) (o.map fun x => .t (.v (.bool x))) = .t (.v (.bool (o.getD z))) := by cases o <;> rfl
@[simp] theorem lookR_tn (z : Value) : lookR true z none = .tup [.t (.v z), .t (.v (.bool false))] := rfl
@[simp] theorem lookR_ts (z : Value) (v : AV) : lookR true z (some v) = .tup [v, .t (.v (.bool true))] := rfl
@[simp] theorem lookR_fn (z : Value) : lookR false z none = .t (.v z) := rfl
@[simp] theorem lookR_fs (z : Value) (v : AV) : lookR false z (some v) = v := rfl
def mupB (id : Id) (kd : Nat) (v : AV) (k : MK) : Option Ob → Option Eff
  | some (.map kd' kvs) => if kd' = kd ∧ v.one = true then some [(id, some (.map kd' (mset kvs k v)))] else none
  | _ => none
def mupK (st : St) (kd : Nat) (x v : AV) : Option MK → Option Eff
  | none => none
  | some k => match x with
    | .mp id => mupB id kd v k (st.ob id)
    | _ => none
@[simp] theorem mupA_def (st : St) (kt kd : Nat) (z : Value) (x k v : AV) : mupA st (some ⟨kt, kd, z⟩) x k v = mupK st kd x v (keyA kd k) := by
  unfold mupA mupK
  dsimp only
  cases keyA kd k with
  | none => rfl
  | some key => dsimp only; split <;> first | rfl | (split <;> first | rfl | (simp_all; done))
@[simp] theorem mupK_mp (st : St) (kd : Nat) (id : Id) (v : AV) (k : MK) : mupK st kd (.mp id) v (some k) = mupB id kd v k (st.ob id) := rfl
@[simp] theorem mupB_i (id : Id) (kd : Nat) (x : Int) (k : MK) (kvs : List (MK × Int)) : mupB id kd (.t (.v (.int .i64 x))) k (some (.map kd (vmap (Value.int .i64) kvs))) = some [(id, some (.map kd (vmap (Value.int .i64) (mset kvs k x))))] := by
  simp [mupB, mset_vmap, AV.one]
@[simp] theorem mupB_b (id : Id) (kd : Nat) (x : Bool) (k : MK) (kvs : List (MK × Bool)) : mupB id kd (.t (.v (.bool x))) k (some (.map kd (vmap Value.bool kvs))) = some [(id, some (.map kd (vmap Value.bool (mset kvs k x))))] := by
  simp [mupB, mset_vmap, AV.one]
@[simp] theorem mupB_i0 (id : Id) (kd : Nat) (x : Int) (k : MK) : mupB id kd (.t (.v (.int .i64 x))) k (some (.map kd [])) = some [(id, some (.map kd (vmap (Value.int .i64) [(k, x)])))] := mupB_i id kd x k []
@[simp] theorem mupB_b0 (id : Id) (kd : Nat) (x : Bool) (k : MK) : mupB id kd (.t (.v (.bool x))) k (some (.map kd [])) = some [(id, some (.map kd (vmap Value.bool [(k, x)])))] := mupB_b id kd x k []
end Cal

set_option linter.unusedSimpArgs false
set_option linter.unusedVariables false
namespace Cal
open Go Go.Proofs
set_option maxRecDepth 100000
/-- All numbers of a list are int64's. -/
def I64 (l : List Int) : Prop := ∀ i : Int, 0 ≤ i → i < l.length → -9223372036854775808 ≤ rd l i ∧ rd l i < 9223372036854775808
/-- The arrows into the first n states. -/
def arrK (parent last : List Int) : Nat → List (MK × Int)
  | 0 => []
  | s + 1 => if s = 0 then [] else mset (arrK parent last s) (.p (rd parent s) (rd last s)) s
theorem arrK_succ (parent last : List Int) {s : Nat} (h : 1 ≤ s) : arrK parent last (s + 1) = mset (arrK parent last s) (.p (rd parent s) (rd last s)) s := by
  rw [arrK, if_neg (by omega)]
@[simp] theorem arrK_1 (parent last : List Int) : arrK parent last 1 = [] := rfl
/-- The code of impl.arrows. -/
def k58 : Code1 :=
  (.seq
    (.region [] false ([]) [
      ⟨some 4, Op.assign (Operand.const (Value.map none)), none⟩])
    (.seq
      (.region [7] false ([]) [
        ⟨some 7, Op.makeMap 83 none, none⟩,
        ⟨some 5, Op.assign (Operand.tmp 7), none⟩])
      (.seq
        (.seq
          (.region [] false ([]) [
            ⟨some 6, Op.assign (Operand.const (Value.int IntKind.i64 1)), none⟩])
          (.block 0
            (.loop
              (.seq
                (.seq
                  (.region [] false ([]) [
                    ⟨some 8, Op.move (Operand.tmp 6), none⟩,
                    ⟨some 9, Op.move (Operand.tmp 0), none⟩,
                    ⟨some 10, Op.call { callee := Callee.builtin Builtin.len, args := #[Operand.tmp 9], argTypes := #[22] }, none⟩,
                    ⟨some 11, Op.binOp BinOp.lss 3 (Operand.tmp 8) (Operand.tmp 10) 3, none⟩])
                  (.cond (Operand.tmp 11)
                    .skip
                    (.exit 0)))
                (.seq
                  (.block 1
                    (.region [] true ([]) [
                      ⟨some 14, Op.move (Operand.tmp 5), none⟩,
                      ⟨some 15, Op.move (Operand.tmp 0), none⟩,
                      ⟨some 16, Op.move (Operand.tmp 6), none⟩,
                      ⟨some 17, Op.indexAddr 22 (Operand.tmp 15) (Operand.tmp 16), none⟩,
                      ⟨some 18, Op.load 2 (Operand.tmp 17), none⟩,
                      ⟨some 19, Op.move (Operand.tmp 1), none⟩,
                      ⟨some 20, Op.move (Operand.tmp 6), none⟩,
                      ⟨some 21, Op.indexAddr 22 (Operand.tmp 19) (Operand.tmp 20), none⟩,
                      ⟨some 22, Op.load 2 (Operand.tmp 21), none⟩,
                      ⟨some 23, Op.build 109 #[(0, Operand.tmp 18), (1, Operand.tmp 22)], none⟩,
                      ⟨some 24, Op.move (Operand.tmp 6), none⟩,
                      ⟨none, Op.mapUpdate 83 (Operand.tmp 14) (Operand.tmp 23) (Operand.tmp 24), none⟩]))
                  (.region [] false ([]) [
                    ⟨some 12, Op.move (Operand.tmp 6), none⟩,
                    ⟨some 13, Op.binOp BinOp.add 3 (Operand.tmp 12) (Operand.const (Value.int IntKind.i64 1)) 3, none⟩,
                    ⟨some 6, Op.assign (Operand.tmp 13), none⟩]))))))
        (.seq
          (.region [] false ([]) [
            ⟨some 25, Op.move (Operand.tmp 5), none⟩,
            ⟨some 4, Op.assign (Operand.tmp 25), none⟩])
          .ret))))
theorem arrows_c (parent last : List Int) (hp : parent.length ≤ 1048576) (hl : parent.length ≤ last.length) (h1 : I64 parent) (h2 : I64 last) :
    CallsF Try.prog 58 [.val (ints parent), .val (ints last)] (.map 1 (vmapT (Value.int .i64) (arrK parent last parent.length))) [] := by
  refine callsF_of_wp2 (fn := Try.f58) (k := k58) (fun _ => []) mixed (by kernel_rfl) rfl (by kernel_rfl) (by kernel_rfl) (by kernel_rfl) rfl (by simp [Try.f58]) (by simp [Arg.like]) ?_
  generalize hst : St.enter [.val (ints parent), .val (ints last)] = st0
  have t0 : st0.tm 0 = .t (ints parent) := by rw [← hst]; rfl
  have t1 : st0.tm 1 = .t (ints last) := by rw [← hst]; rfl
  clear hst
  unfold k58
  repeat' (first
    | (refine wp2_seq fun K hK => ?_)
    | (refine wp1_seq fun K hK => ?_)
    | (refine M_cons fun K hK => ?_)
    | (refine hK _ ?_; clear hK K)
    | (clear hK K; refine hK _ ?_; clear hK K)
    | (clear hK K; clear hK K; refine hK _ ?_; clear hK K)
    | (clear hK K; clear hK K; clear hK K; refine hK _ ?_; clear hK K)
    | (refine hX _ ?_; clear hX hY X Y)
    | (refine hY _ ?_; clear hX hY X Y)
    | (refine wp2_block ?_)
    | (refine wp1_block ?_)
    | (refine wp2_region ?_)
    | (refine wp1_region ?_)
    | (refine wp2_cond fun X Y hX hY => ?_)
    | (refine wp1_cond fun X Y hX hY => ?_)
    | (refine condK_of (fun c => ?_) (fun c => ?_) <;> (try simp [-List.length_eq_zero_iff] at c))
    | (refine guard1_or (fun c => ?_) (fun c => ?_) <;> (have cc := c) <;> (try simp [-List.length_eq_zero_iff] at cc) <;> (try simp (disch := omega) [t0, t1, c]))
    | (simp (disch := omega) [t0, t1]))
  all_goals try (simp [t0, t1, Back]; done)
  have hJ : ∀ s, s.tm 5 = .mp (7, 0) → s.ob (7, 0) = some (.map 1 (vmap (Value.int .i64) (arrK parent last parent.length))) → K s := by
    intro s s5 o
    repeat' (first
      | (refine wp2_seq fun K hK => ?_)
      | (refine wp1_seq fun K hK => ?_)
      | (refine M_cons fun K hK => ?_)
      | (refine hK _ ?_; clear hK K)
      | (clear hK K; refine hK _ ?_; clear hK K)
      | (clear hK K; clear hK K; refine hK _ ?_; clear hK K)
      | (clear hK K; clear hK K; clear hK K; refine hK _ ?_; clear hK K)
      | (refine hX _ ?_; clear hX hY X Y)
      | (refine hY _ ?_; clear hX hY X Y)
      | (refine wp2_block ?_)
      | (refine wp1_block ?_)
      | (refine wp2_region ?_)
      | (refine wp1_region ?_)
      | (refine wp2_cond fun X Y hX hY => ?_)
      | (refine wp1_cond fun X Y hX hY => ?_)
      | (refine condK_of (fun c => ?_) (fun c => ?_) <;> (try simp [-List.length_eq_zero_iff] at c))
      | (refine guard1_or (fun c => ?_) (fun c => ?_) <;> (have cc := c) <;> (try simp [-List.length_eq_zero_iff] at cc) <;> (try simp (disch := omega) [s5, o, c]))
      | (simp (disch := omega) [s5, o]))
    all_goals try (simp [s5, o, Back]; done)
  clear hK
  refine wp2_loop (fun n s => ∃ k : Nat, s.tm 0 = .t (ints parent) ∧ s.tm 1 = .t (ints last) ∧ s.tm 5 = .mp (7, 0) ∧ s.ob (7, 0) = some (.map 1 (vmap (Value.int .i64) (arrK parent last k))) ∧ s.tm 6 = .t (.v (.int .i64 k)) ∧ 1 ≤ k ∧ n = parent.length - k ∧ (parent.length ≤ k → arrK parent last k = arrK parent last parent.length)) (parent.length - 1) ?_ ?_
  · refine ⟨1, ?_⟩
    simp [t0, t1]
    intro h
    have : parent.length = 0 ∨ parent.length = 1 := by omega
    rcases this with h | h <;> rw [h] <;> rfl
  · rintro n s ⟨k, s0, s1, s5, o, s6, hk, rfl, he⟩ K' hK'
    have e1 := h1 k
    have e2 := h2 k
    have e3 := arrK_succ parent last hk
    repeat' (first
      | (refine wp2_seq fun K hK => ?_)
      | (refine wp1_seq fun K hK => ?_)
      | (refine M_cons fun K hK => ?_)
      | (refine hK _ ?_; clear hK K)
      | (clear hK K; refine hK _ ?_; clear hK K)
      | (clear hK K; clear hK K; refine hK _ ?_; clear hK K)
      | (clear hK K; clear hK K; clear hK K; refine hK _ ?_; clear hK K)
      | (refine hX _ ?_; clear hX hY X Y)
      | (refine hY _ ?_; clear hX hY X Y)
      | (refine wp2_block ?_)
      | (refine wp1_block ?_)
      | (refine wp2_region ?_)
      | (refine wp1_region ?_)
      | (refine wp2_cond fun X Y hX hY => ?_)
      | (refine wp1_cond fun X Y hX hY => ?_)
      | (refine condK_of (fun c => ?_) (fun c => ?_) <;> (try simp [-List.length_eq_zero_iff] at c))
      | (refine guard1_or (fun c => ?_) (fun c => ?_) <;> (have cc := c) <;> (try simp [-List.length_eq_zero_iff] at cc) <;> (try simp (disch := omega) [s0, s1, s5, o, s6, c]))
      | (simp (disch := omega) [s0, s1, s5, o, s6]))
    all_goals try (simp [s0, s1, s5, o, s6, Back]; done)
    · refine hK' (parent.length - (k + 1)) _ (by omega) ⟨k + 1, ?_⟩
      simp [s0, s1, s5, e3]
      intro h
      have : parent.length = k + 1 := by omega
      rw [this, e3]
    · exact hJ _ (by simp [s5]) (by simp [o, he c])
end Cal

set_option linter.unusedSimpArgs false
set_option linter.unusedVariables false
namespace Cal
open Go Go.Proofs Auto AC
set_option maxRecDepth 100000
theorem rd_getD (l : List Int) (s : Nat) : rd l s = l.getD s 0 := by simp [rd]
theorem rd_getI (l : List Int) (i : Int) : rd l i = l.getD i.toNat 0 := rfl
theorem mget_arrK (parent last : List Int) (f e : Int) : ∀ n, mget (arrK parent last n) (.p f e) = arr parent last n f e
  | 0 => rfl
  | s + 1 => by
    have ih := mget_arrK parent last f e s
    rw [arrK]
    unfold arr
    by_cases h : s = 0
    · subst h
      simp [mget, arr]
    · rw [if_neg h, mget_mset, ih, rd_getD, rd_getD]
      by_cases h1 : parent.getD s 0 = f <;> by_cases h2 : last.getD s 0 = e <;> simp [h, h1, h2]
/-- Edges, and what stands at the root. -/
structure Small (parent last : List Int) : Prop where
  p : ∀ s, 1 ≤ s → s < parent.length → 0 ≤ last.getD s 0 ∧ last.getD s 0 < 4000
  n : parent.length ≤ 2000
  p0 : rd parent 0 = -1
  l0 : rd last 0 = -1
theorem I64_of {l : List Int} (h : ∀ s, s < l.length → -9223372036854775808 ≤ l.getD s 0 ∧ l.getD s 0 < 9223372036854775808) : I64 l := fun i h0 h1 => by
  rw [rd_getI]
  exact h i.toNat (by omega)
theorem Trie.i64p {ws : List (List Int)} {parent last : List Int} (T : Trie ws parent last) (h : Small parent last) : I64 parent := I64_of fun s hs => by
  have h1 := h.n
  have h2 := T.lp
  by_cases h0 : s = 0
  · subst h0
    have := h.p0
    rw [rd_getI] at this
    simp only [Int.toNat_zero] at this
    omega
  · have := T.par s (by omega) (by omega)
    omega
theorem Trie.i64l {ws : List (List Int)} {parent last : List Int} (T : Trie ws parent last) (h : Small parent last) : I64 last := I64_of fun s hs => by
  have h1 := h.n
  have h2 := T.lp
  have h3 := T.ll
  by_cases h0 : s = 0
  · subst h0
    have := h.l0
    rw [rd_getI] at this
    simp only [Int.toNat_zero] at this
    omega
  · have := h.p s (by omega) (by omega)
    omega
/-- One link of a chain. -/
theorem Trie.link {ws : List (List Int)} {parent last : List Int} (T : Trie ws parent last) {f : Nat} (hf : f < ws.length) {e : Int} (ha : arr parent last ws.length f e = none) :
    (f = 0 → ([] : List Int) = LS (isWord ws) (ws.getD f [] ++ [e])) ∧ (f ≠ 0 → LS (isWord ws) (LS (isWord ws) (ws.getD f []).tail ++ [e]) = LS (isWord ws) (ws.getD f [] ++ [e])) := by
  have hnot := T.arr_not hf ha
  constructor
  · rintro rfl
    have hr : ws.getD 0 [] = [] := by rw [List.getD_eq_getElem?_getD, T.root]; rfl
    rw [hr] at hnot ⊢
    have : isWord ws [e] = false := by
      cases hi : isWord ws [e] with
      | false => rfl
      | true => exact absurd (isWord_iff.1 hi) hnot
    simp [LS, this]
  · intro h0
    obtain ⟨a, l, hal⟩ := List.exists_cons_of_ne_nil (T.ne_nil h0 hf)
    rw [hal] at hnot ⊢
    show LS (isWord ws) (LS (isWord ws) l ++ [e]) = _
    refine (LS_link T.closed ?_).symm
    cases hi : isWord ws (a :: l ++ [e]) with
    | false => rfl
    | true => exact absurd (isWord_iff.1 hi) hnot
theorem Trie.found {ws : List (List Int)} {parent last : List Int} (T : Trie ws parent last) {f : Nat} {e t : Int} (ha : arr parent last ws.length f e = some t) :
    ∃ s : Nat, t = s ∧ s < ws.length ∧ ws.getD s [] = LS (isWord ws) (ws.getD f [] ++ [e]) := by
  obtain ⟨s, rfl, hs, hlt, hw⟩ := T.arr_word ha
  refine ⟨s, rfl, hs, ?_⟩
  rw [hw, LS_self]
  rw [isWord_iff, ← hw]
  exact mem_getD hs
/-- The link of a state, out of its parent's. -/
theorem Trie.next {ws : List (List Int)} {parent last : List Int} (T : Trie ws parent last) {r : List Int} (hF : FailsTo ws r ws.length) {s : Nat} (h1 : 1 ≤ s) (hs : s < ws.length) {t : Nat} (ht : t < ws.length) :
    (parent.getD s 0 = 0 → r.getD s 0 = 0) ∧ (parent.getD s 0 ≠ 0 → ∀ f : Nat, r.getD (parent.getD s 0).toNat 0 = f → ws.getD t [] = LS (isWord ws) (ws.getD f [] ++ [last.getD s 0]) → r.getD s 0 = t) := by
  obtain ⟨g, hg, hgs, hgw⟩ := hF s h1 hs
  have hw := T.word s h1 hs
  have hpar := T.par s h1 hs
  constructor
  · intro h0
    rw [hw, h0] at hgw
    have hr : ws.getD (0 : Int).toNat [] = [] := by show ws.getD 0 [] = []; rw [List.getD_eq_getElem?_getD, T.root]; rfl
    rw [hr] at hgw
    have : g = 0 := T.inj (by omega) T.pos (by rw [hgw]; show ([] : List Int) = ws.getD 0 []; exact hr.symm)
    rw [hg, this]
    rfl
  · intro h0 f hf htw
    obtain ⟨f', hf', hlt, hfw⟩ := hF (parent.getD s 0).toNat (by omega) (by omega)
    have : f = f' := by omega
    subst this
    have : ws.getD t [] = ws.getD g [] := by
      rw [htw, hgw, hfw, hw, ← LS_LS T.closed]
      obtain ⟨a, l, hal⟩ := List.exists_cons_of_ne_nil (T.ne_nil (s := (parent.getD s 0).toNat) (by omega) (by omega))
      rw [hal]; rfl
    rw [hg, T.inj ht (by omega) this]
theorem take_snoc {r : List Int} {k : Nat} (h : k < r.length) : r.take k ++ [rd r k] = r.take (k + 1) := by
  rw [List.take_add_one, rd_getD, List.getD_eq_getElem?_getD]
  congr 1
  rw [List.getElem?_eq_getElem h]
  rfl
theorem rd_take {r : List Int} {k : Nat} {i : Int} (h0 : 0 ≤ i) (h : i < k) : rd (r.take k) i = rd r i := by
  rw [rd_getI, rd_getI, List.getD_eq_getElem?_getD, List.getD_eq_getElem?_getD, List.getElem?_take, if_pos (by omega)]
/-- The code of impl.failsOf. -/
def k49 : Code1 :=
  (.seq
    (.region [] false ([]) [
      ⟨some 4, Op.assign (Operand.const (Value.slice none 0 0)), none⟩])
    (.seq
      (.region [13] false ([]) [
        ⟨some 11, Op.move (Operand.tmp 0), none⟩,
        ⟨some 12, Op.move (Operand.tmp 1), none⟩,
        ⟨some 13, Op.call { callee := Callee.value (Operand.func 58), args := #[Operand.tmp 11, Operand.tmp 12], argTypes := #[22, 22] }, none⟩,
        ⟨some 5, Op.assign (Operand.tmp 13), none⟩])
      (.seq
        (.region [14] false ([]) [
          ⟨some 14, Op.buildSlice 22 1 #[(0, Operand.const (Value.int IntKind.i64 (-1)))], none⟩,
          ⟨some 6, Op.assign (Operand.tmp 14), none⟩])
        (.seq
          (.seq
            (.region [] false ([]) [
              ⟨some 7, Op.assign (Operand.const (Value.int IntKind.i64 1)), none⟩])
            (.block 0
              (.loop
                (.seq
                  (.seq
                    (.region [] false ([]) [
                      ⟨some 15, Op.move (Operand.tmp 7), none⟩,
                      ⟨some 16, Op.move (Operand.tmp 0), none⟩,
                      ⟨some 17, Op.call { callee := Callee.builtin Builtin.len, args := #[Operand.tmp 16], argTypes := #[22] }, none⟩,
                      ⟨some 18, Op.binOp BinOp.lss 3 (Operand.tmp 15) (Operand.tmp 17) 3, none⟩])
                    (.cond (Operand.tmp 18)
                      .skip
                      (.exit 0)))
                  (.seq
                    (.block 1
                      (.seq
                        (.seq
                          (.region [] false ([]) [
                            ⟨some 21, Op.move (Operand.tmp 0), none⟩,
                            ⟨some 22, Op.move (Operand.tmp 7), none⟩,
                            ⟨some 23, Op.indexAddr 22 (Operand.tmp 21) (Operand.tmp 22), none⟩,
                            ⟨some 24, Op.load 2 (Operand.tmp 23), none⟩,
                            ⟨some 25, Op.binOp BinOp.eql 2 (Operand.tmp 24) (Operand.const (Value.int IntKind.i64 0)) 2, none⟩])
                          (.cond (Operand.tmp 25)
                            (.seq
                              (.region [27, 28] false ([]) [
                                ⟨some 26, Op.move (Operand.tmp 6), none⟩,
                                ⟨some 27, Op.buildSlice 22 1 #[(0, Operand.const (Value.int IntKind.i64 0))], none⟩,
                                ⟨some 28, Op.call { callee := Callee.builtin Builtin.append, args := #[Operand.tmp 26, Operand.tmp 27], argTypes := #[22, 22] }, none⟩,
                                ⟨some 6, Op.assign (Operand.tmp 28), none⟩])
                              (.exit 1))
                            .skip))
                        (.seq
                          (.region [] false ([]) [
                            ⟨some 29, Op.move (Operand.tmp 6), none⟩,
                            ⟨some 30, Op.move (Operand.tmp 0), none⟩,
                            ⟨some 31, Op.move (Operand.tmp 7), none⟩,
                            ⟨some 32, Op.indexAddr 22 (Operand.tmp 30) (Operand.tmp 31), none⟩,
                            ⟨some 33, Op.load 2 (Operand.tmp 32), none⟩,
                            ⟨some 34, Op.indexAddr 22 (Operand.tmp 29) (Operand.tmp 33), none⟩,
                            ⟨some 35, Op.load 2 (Operand.tmp 34), none⟩,
                            ⟨some 8, Op.assign (Operand.tmp 35), none⟩])
                          (.block 2
                            (.loop
                              (.block 3
                                (.seq
                                  (.region [] false ([]) [
                                    ⟨some 37, Op.move (Operand.tmp 5), none⟩,
                                    ⟨some 38, Op.move (Operand.tmp 8), none⟩,
                                    ⟨some 39, Op.move (Operand.tmp 1), none⟩,
                                    ⟨some 40, Op.move (Operand.tmp 7), none⟩,
                                    ⟨some 41, Op.indexAddr 22 (Operand.tmp 39) (Operand.tmp 40), none⟩,
                                    ⟨some 42, Op.load 2 (Operand.tmp 41), none⟩,
                                    ⟨some 43, Op.build 109 #[(0, Operand.tmp 38), (1, Operand.tmp 42)], none⟩,
                                    ⟨some 44, Op.lookup 83 (Operand.tmp 37) (Operand.tmp 43) true, none⟩,
                                    ⟨some 36, Op.move (Operand.tmp 44), none⟩,
                                    ⟨some 45, Op.extract (Operand.tmp 36) 0, none⟩,
                                    ⟨some 46, Op.extract (Operand.tmp 36) 1, none⟩,
                                    ⟨some 9, Op.assign (Operand.tmp 45), none⟩,
                                    ⟨some 10, Op.assign (Operand.tmp 46), none⟩])
                                  (.seq
                                    (.seq
                                      (.region [] false ([]) [
                                        ⟨some 47, Op.move (Operand.tmp 10), none⟩])
                                      (.cond (Operand.tmp 47)
                                        (.seq
                                          (.region [50, 51] false ([]) [
                                            ⟨some 48, Op.move (Operand.tmp 6), none⟩,
                                            ⟨some 49, Op.move (Operand.tmp 9), none⟩,
                                            ⟨some 50, Op.buildSlice 22 1 #[(0, Operand.tmp 49)], none⟩,
                                            ⟨some 51, Op.call { callee := Callee.builtin Builtin.append, args := #[Operand.tmp 48, Operand.tmp 50], argTypes := #[22, 22] }, none⟩,
                                            ⟨some 6, Op.assign (Operand.tmp 51), none⟩])
                                          (.exit 2))
                                        .skip))
                                    (.seq
                                      (.seq
                                        (.region [] false ([]) [
                                          ⟨some 52, Op.move (Operand.tmp 8), none⟩,
                                          ⟨some 53, Op.binOp BinOp.eql 2 (Operand.tmp 52) (Operand.const (Value.int IntKind.i64 0)) 2, none⟩])
                                        (.cond (Operand.tmp 53)
                                          (.seq
                                            (.region [55, 56] false ([]) [
                                              ⟨some 54, Op.move (Operand.tmp 6), none⟩,
                                              ⟨some 55, Op.buildSlice 22 1 #[(0, Operand.const (Value.int IntKind.i64 0))], none⟩,
                                              ⟨some 56, Op.call { callee := Callee.builtin Builtin.append, args := #[Operand.tmp 54, Operand.tmp 55], argTypes := #[22, 22] }, none⟩,
                                              ⟨some 6, Op.assign (Operand.tmp 56), none⟩])
                                            (.exit 2))
                                          .skip))
                                      (.region [] false ([]) [
                                        ⟨some 57, Op.move (Operand.tmp 6), none⟩,
                                        ⟨some 58, Op.move (Operand.tmp 8), none⟩,
                                        ⟨some 59, Op.indexAddr 22 (Operand.tmp 57) (Operand.tmp 58), none⟩,
                                        ⟨some 60, Op.load 2 (Operand.tmp 59), none⟩,
                                        ⟨some 8, Op.assign (Operand.tmp 60), none⟩]))))))))))
                    (.region [] false ([]) [
                      ⟨some 19, Op.move (Operand.tmp 7), none⟩,
                      ⟨some 20, Op.binOp BinOp.add 3 (Operand.tmp 19) (Operand.const (Value.int IntKind.i64 1)) 3, none⟩,
                      ⟨some 7, Op.assign (Operand.tmp 20), none⟩]))))))
          (.seq
            (.region [] false ([]) [
              ⟨some 61, Op.move (Operand.tmp 6), none⟩,
              ⟨some 4, Op.assign (Operand.tmp 61), none⟩])
            .ret)))))
set_option maxHeartbeats 0 in
theorem failsOf_c {ws : List (List Int)} {parent last r : List Int} (T : Trie ws parent last) (hS : Small parent last) (hr : r.length = ws.length) (hF : FailsTo ws r ws.length) (h0 : r.getD 0 0 = -1) :
    CallsF Try.prog 49 [.val (ints parent), .val (ints last)] (.own 1 (intRow r)) [] := by
  have i1 := Trie.i64p T hS
  have i2 := Trie.i64l T hS
  have l1 := T.lp
  have l2 := T.ll
  have l3 := hS.n
  have l4 := T.pos
  refine callsF_of_wp2 (fn := Try.f49) (k := k49) (fun _ => []) mixed (by kernel_rfl) rfl (by kernel_rfl) (by kernel_rfl) (by kernel_rfl) rfl (by simp [Try.f49]) (by simp [Arg.like]) ?_
  generalize hst : St.enter [.val (ints parent), .val (ints last)] = st0
  have t0 : st0.tm 0 = .t (ints parent) := by rw [← hst]; rfl
  have t1 : st0.tm 1 = .t (ints last) := by rw [← hst]; rfl
  clear hst
  unfold k49
  repeat' (first
    | (refine wp2_seq fun K hK => ?_)
    | (refine wp1_seq fun K hK => ?_)
    | (refine M_cons fun K hK => ?_)
    | (refine hK _ ?_; clear hK K)
    | (clear hK K; refine hK _ ?_; clear hK K)
    | (clear hK K; clear hK K; refine hK _ ?_; clear hK K)
    | (clear hK K; clear hK K; clear hK K; refine hK _ ?_; clear hK K)
    | (refine hX _ ?_; clear hX hY X Y)
    | (refine hY _ ?_; clear hX hY X Y)
    | (refine wp2_block ?_)
    | (refine wp1_block ?_)
    | (refine wp2_region ?_)
    | (refine wp1_region ?_)
    | (refine wp2_cond fun X Y hX hY => ?_)
    | (refine wp1_cond fun X Y hX hY => ?_)
    | (refine condK_of (fun c => ?_) (fun c => ?_) <;> (try simp [-List.length_eq_zero_iff] at c))
    | (refine guard1_or (fun c => ?_) (fun c => ?_) <;> (have cc := c) <;> (try simp [-List.length_eq_zero_iff] at cc) <;> (try simp (disch := omega) [t0, t1, c]))
    | (refine callT_fl (arrows_c parent last ?_ ?_ i1 i2) (by simp [St.args, St.arg, t0, t1] <;> first | rfl | ((repeat' first | rfl | apply And.intro); done)) (by first | (simp [RV.flat, RV.flats, T.flat]; done) | ((repeat' first | exact flat_intRow _ | exact trivial | constructor | unfold RV.flat | unfold RV.flats); done)) (by simp [mutsOf]) ?_; omega; omega)
    | (simp (disch := omega) [t0, t1]))
  all_goals try (simp [t0, t1, Back]; done)
  have hJ : ∀ s, s.tm 6 = .row (14, 0) 1 0 r.length → s.ob (14, 0) = some (.row 1 (intRow r)) → K s := by
    intro s s6 o
    repeat' (first
      | (refine wp2_seq fun K hK => ?_)
      | (refine wp1_seq fun K hK => ?_)
      | (refine M_cons fun K hK => ?_)
      | (refine hK _ ?_; clear hK K)
      | (clear hK K; refine hK _ ?_; clear hK K)
      | (clear hK K; clear hK K; refine hK _ ?_; clear hK K)
      | (clear hK K; clear hK K; clear hK K; refine hK _ ?_; clear hK K)
      | (refine hX _ ?_; clear hX hY X Y)
      | (refine hY _ ?_; clear hX hY X Y)
      | (refine wp2_block ?_)
      | (refine wp1_block ?_)
      | (refine wp2_region ?_)
      | (refine wp1_region ?_)
      | (refine wp2_cond fun X Y hX hY => ?_)
      | (refine wp1_cond fun X Y hX hY => ?_)
      | (refine condK_of (fun c => ?_) (fun c => ?_) <;> (try simp [-List.length_eq_zero_iff] at c))
      | (refine guard1_or (fun c => ?_) (fun c => ?_) <;> (have cc := c) <;> (try simp [-List.length_eq_zero_iff] at cc) <;> (try simp (disch := omega) [s6, o, c]))
      | (simp (disch := omega) [s6, o]))
    all_goals try (simp [s6, o, Back]; done)
  clear hK
  refine wp2_loop (fun n s => ∃ k : Nat, s.tm 0 = .t (ints parent) ∧ s.tm 1 = .t (ints last) ∧ s.tm 5 = .mp (13, 0) ∧ s.ob (13, 0) = some (.map 1 (vmap (Value.int .i64) (arrK parent last parent.length))) ∧ s.tm 6 = .row (14, 0) 1 0 k ∧ s.ob (14, 0) = some (.row 1 (intRow (r.take k))) ∧ s.tm 7 = .t (.v (.int .i64 k)) ∧ 1 ≤ k ∧ k ≤ r.length ∧ n = r.length - k) (r.length - 1) ?_ ?_
  · refine ⟨1, ?_⟩
    have e1 := take_snoc (r := r) (k := 0) (by omega)
    rw [rd_getD, h0] at e1
    simp at e1
    simp [t0, t1, ← e1]
    omega
  · rintro n s ⟨k, s0, s1, s5, om, s6, o, s7, hk, hkr, rfl⟩ K' hK'
    have tl : (r.take k).length = k := by rw [List.length_take]; omega
    by_cases hkn : k < parent.length
    · have q1 := T.par k hk (by omega)
      have q2 := hS.p k hk hkn
      rw [← rd_getD] at q1 q2
      have q3 := take_snoc (r := r) (k := k) (by omega)
      have q4 : rd (r.take k) (max (rd parent k) 0) = rd r (rd parent k) := by rw [show max (rd parent k) 0 = rd parent k by omega]; exact rd_take q1.1 (by omega)
      repeat' (first
        | (refine wp2_seq fun K hK => ?_)
        | (refine wp1_seq fun K hK => ?_)
        | (refine M_cons fun K hK => ?_)
        | (refine hK _ ?_; clear hK K)
        | (clear hK K; refine hK _ ?_; clear hK K)
        | (clear hK K; clear hK K; refine hK _ ?_; clear hK K)
        | (clear hK K; clear hK K; clear hK K; refine hK _ ?_; clear hK K)
        | (refine hX _ ?_; clear hX hY X Y)
        | (refine hY _ ?_; clear hX hY X Y)
        | (refine wp2_block ?_)
        | (refine wp1_block ?_)
        | (refine wp2_canon (ops := ⟨some 19, _, _⟩ :: _) [(6, 14)] ?_)
        | (refine wp2_region ?_)
        | (refine wp1_region ?_)
        | (refine wp2_cond fun X Y hX hY => ?_)
        | (refine wp1_cond fun X Y hX hY => ?_)
        | (refine condK_of (fun c => ?_) (fun c => ?_) <;> (try simp [-List.length_eq_zero_iff] at c))
        | (refine guard1_or (fun c => ?_) (fun c => ?_) <;> (have cc := c) <;> (try simp [-List.length_eq_zero_iff] at cc) <;> (try simp (disch := omega) [s0, s1, s5, om, s6, o, s7, tl, q4, c]))
        | (simp (disch := omega) [s0, s1, s5, om, s6, o, s7, tl, q4]))
      all_goals try (simp [s0, s1, s5, om, s6, o, s7, tl, q4, Back]; done)
      · have q5 := (Trie.next T hF hk (by omega) T.pos).1 (by rw [← rd_getD]; exact c)
        rw [← rd_getD] at q5
        rw [q5] at q3
        refine hK' (r.length - (k + 1)) _ (by omega) ⟨k + 1, ?_⟩
        simp [s0, s1, s5, om, q3]
        omega
      · obtain ⟨f0, g1, g2, g3⟩ := hF (rd parent k).toNat (by omega) (by omega)
        rw [← rd_getI] at g1
        have hI : ∀ id s, (id = 51 ∨ id = 56) → s.tm 0 = .t (ints parent) → s.tm 1 = .t (ints last) → s.tm 5 = .mp (13, 0) → s.ob (13, 0) = some (.map 1 (vmap (Value.int .i64) (arrK parent last parent.length))) → s.tm 6 = .row (id, 0) 1 0 (k + 1) → s.ob (id, 0) = some (.row 1 (intRow (r.take (k + 1)))) → s.tm 7 = .t (.v (.int .i64 k)) → K s := by
          rintro id s (rfl | rfl) s0 s1 s5 om s6 o s7
          · repeat' (first
              | (refine wp2_seq fun K hK => ?_)
              | (refine wp1_seq fun K hK => ?_)
              | (refine M_cons fun K hK => ?_)
              | (refine hK _ ?_; clear hK K)
              | (clear hK K; refine hK _ ?_; clear hK K)
              | (clear hK K; clear hK K; refine hK _ ?_; clear hK K)
              | (clear hK K; clear hK K; clear hK K; refine hK _ ?_; clear hK K)
              | (refine hX _ ?_; clear hX hY X Y)
              | (refine hY _ ?_; clear hX hY X Y)
              | (refine wp2_block ?_)
              | (refine wp1_block ?_)
              | (refine wp2_canon (ops := ⟨some 19, _, _⟩ :: _) [(6, 14)] ?_)
              | (refine wp2_region ?_)
              | (refine wp1_region ?_)
              | (refine wp2_cond fun X Y hX hY => ?_)
              | (refine wp1_cond fun X Y hX hY => ?_)
              | (refine condK_of (fun c => ?_) (fun c => ?_) <;> (try simp [-List.length_eq_zero_iff] at c))
              | (refine guard1_or (fun c => ?_) (fun c => ?_) <;> (have cc := c) <;> (try simp [-List.length_eq_zero_iff] at cc) <;> (try simp (disch := omega) [s0, s1, s5, om, s6, o, s7, c]))
              | (simp (disch := omega) [s0, s1, s5, om, s6, o, s7]))
            all_goals try (simp [s0, s1, s5, om, s6, o, s7, Back]; done)
            refine hK' (r.length - (k + 1)) _ (by omega) ⟨k + 1, ?_⟩
            simp [s0, s1, s5, om, o, s6]
            omega
          · repeat' (first
              | (refine wp2_seq fun K hK => ?_)
              | (refine wp1_seq fun K hK => ?_)
              | (refine M_cons fun K hK => ?_)
              | (refine hK _ ?_; clear hK K)
              | (clear hK K; refine hK _ ?_; clear hK K)
              | (clear hK K; clear hK K; refine hK _ ?_; clear hK K)
              | (clear hK K; clear hK K; clear hK K; refine hK _ ?_; clear hK K)
              | (refine hX _ ?_; clear hX hY X Y)
              | (refine hY _ ?_; clear hX hY X Y)
              | (refine wp2_block ?_)
              | (refine wp1_block ?_)
              | (refine wp2_canon (ops := ⟨some 19, _, _⟩ :: _) [(6, 14)] ?_)
              | (refine wp2_region ?_)
              | (refine wp1_region ?_)
              | (refine wp2_cond fun X Y hX hY => ?_)
              | (refine wp1_cond fun X Y hX hY => ?_)
              | (refine condK_of (fun c => ?_) (fun c => ?_) <;> (try simp [-List.length_eq_zero_iff] at c))
              | (refine guard1_or (fun c => ?_) (fun c => ?_) <;> (have cc := c) <;> (try simp [-List.length_eq_zero_iff] at cc) <;> (try simp (disch := omega) [s0, s1, s5, om, s6, o, s7, c]))
              | (simp (disch := omega) [s0, s1, s5, om, s6, o, s7]))
            all_goals try (simp [s0, s1, s5, om, s6, o, s7, Back]; done)
            refine hK' (r.length - (k + 1)) _ (by omega) ⟨k + 1, ?_⟩
            simp [s0, s1, s5, om, o, s6]
            omega
        clear hK hK'
        have nx : ∀ t : Nat, t < ws.length → ws.getD t [] = LS (isWord ws) (ws.getD f0 [] ++ [rd last k]) → rd r k = t := fun t ht hw => by
          have e1 : parent.getD k 0 = rd parent k := (rd_getD parent k).symm
          have := (Trie.next T hF hk (by omega) ht).2 (by rw [← rd_getD]; exact c) f0 (by rw [e1, ← rd_getI]; exact g1) (by rw [← rd_getD]; exact hw)
          rw [rd_getD]; exact this
        refine wp2_loop (fun n s => ∃ f : Nat, s.tm 0 = .t (ints parent) ∧ s.tm 1 = .t (ints last) ∧ s.tm 5 = .mp (13, 0) ∧ s.ob (13, 0) = some (.map 1 (vmap (Value.int .i64) (arrK parent last parent.length))) ∧ s.tm 6 = .row (14, 0) 1 0 k ∧ s.ob (14, 0) = some (.row 1 (intRow (r.take k))) ∧ s.tm 7 = .t (.v (.int .i64 k)) ∧ s.tm 8 = .t (.v (.int .i64 f)) ∧ f < k ∧ n = f ∧ LS (isWord ws) (ws.getD f [] ++ [rd last k]) = LS (isWord ws) (ws.getD f0 [] ++ [rd last k])) f0 ?_ ?_
        · refine ⟨f0, ?_⟩
          simp [s0, s1, s5, om, s6, o, s7, q4, g1]
          omega
        · rintro f s ⟨_, s0, s1, s5, om, s6, o, s7, s8, hf, rfl, hw⟩ K2 hK2
          have ml := mget_arrK parent last f (rd last k) parent.length
          cases ha : arr parent last parent.length f (rd last k) with
          | some t =>
            rw [ha] at ml
            rw [l1] at ha
            obtain ⟨t', rfl, h1, h2⟩ := Trie.found T ha
            rw [nx t' h1 (by rw [h2, hw])] at q3
            repeat' (first
              | (refine wp2_seq fun K hK => ?_)
              | (refine wp1_seq fun K hK => ?_)
              | (refine M_cons fun K hK => ?_)
              | (refine hK _ ?_; clear hK K)
              | (clear hK K; refine hK _ ?_; clear hK K)
              | (clear hK K; clear hK K; refine hK _ ?_; clear hK K)
              | (clear hK K; clear hK K; clear hK K; refine hK _ ?_; clear hK K)
              | (refine hX _ ?_; clear hX hY X Y)
              | (refine hY _ ?_; clear hX hY X Y)
              | (refine wp2_block ?_)
              | (refine wp1_block ?_)
              | (refine wp2_region ?_)
              | (refine wp1_region ?_)
              | (refine wp2_cond fun X Y hX hY => ?_)
              | (refine wp1_cond fun X Y hX hY => ?_)
              | (refine condK_of (fun c => ?_) (fun c => ?_) <;> (try simp [-List.length_eq_zero_iff] at c))
              | (refine guard1_or (fun c => ?_) (fun c => ?_) <;> (have cc := c) <;> (try simp [-List.length_eq_zero_iff] at cc) <;> (try simp (disch := omega) [s0, s1, s5, om, s6, o, s7, s8, ml, tl, c]))
              | (simp (disch := omega) [s0, s1, s5, om, s6, o, s7, s8, ml, tl]))
            all_goals try (simp [s0, s1, s5, om, s6, o, s7, s8, ml, tl, Back]; done)
            exact hI 51 _ (.inl rfl) (by simp [s0]) (by simp [s1]) (by simp [s5]) (by simp [om]) (by simp) (by simp [q3]) (by simp [s7])
          | none =>
            rw [ha] at ml
            rw [l1] at ha
            obtain ⟨z1, z2⟩ := Trie.link T (f := f) (by omega) ha
            by_cases hf0 : f = 0
            · subst hf0
              have := nx 0 T.pos (by
                have hr0 : ws.getD 0 [] = [] := by rw [List.getD_eq_getElem?_getD, T.root]; rfl
                rw [← hw, ← z1 rfl, hr0])
              rw [this] at q3
              simp only [Int.natCast_zero] at *
              repeat' (first
                | (refine wp2_seq fun K hK => ?_)
                | (refine wp1_seq fun K hK => ?_)
                | (refine M_cons fun K hK => ?_)
                | (refine hK _ ?_; clear hK K)
                | (clear hK K; refine hK _ ?_; clear hK K)
                | (clear hK K; clear hK K; refine hK _ ?_; clear hK K)
                | (clear hK K; clear hK K; clear hK K; refine hK _ ?_; clear hK K)
                | (refine hX _ ?_; clear hX hY X Y)
                | (refine hY _ ?_; clear hX hY X Y)
                | (refine wp2_block ?_)
                | (refine wp1_block ?_)
                | (refine wp2_region ?_)
                | (refine wp1_region ?_)
                | (refine wp2_cond fun X Y hX hY => ?_)
                | (refine wp1_cond fun X Y hX hY => ?_)
                | (refine condK_of (fun c => ?_) (fun c => ?_) <;> (try simp [-List.length_eq_zero_iff] at c))
                | (refine guard1_or (fun c => ?_) (fun c => ?_) <;> (have cc := c) <;> (try simp [-List.length_eq_zero_iff] at cc) <;> (try simp (disch := omega) [s0, s1, s5, om, s6, o, s7, s8, ml, tl, c]))
                | (simp (disch := omega) [s0, s1, s5, om, s6, o, s7, s8, ml, tl]))
              all_goals try (simp [s0, s1, s5, om, s6, o, s7, s8, ml, tl, Back]; done)
              all_goals exact hI 56 _ (.inr rfl) (by simp [s0]) (by simp [s1]) (by simp [s5]) (by simp [om]) (by simp) (by simp [q3]) (by simp [s7])
            · obtain ⟨f', w1, w2, w3⟩ := hF f (by omega) (by omega)
              rw [← rd_getD] at w1
              have w4 : rd (r.take k) f = f' := by rw [rd_take (by omega) (by omega)]; exact w1
              repeat' (first
                | (refine wp2_seq fun K hK => ?_)
                | (refine wp1_seq fun K hK => ?_)
                | (refine M_cons fun K hK => ?_)
                | (refine hK _ ?_; clear hK K)
                | (clear hK K; refine hK _ ?_; clear hK K)
                | (clear hK K; clear hK K; refine hK _ ?_; clear hK K)
                | (clear hK K; clear hK K; clear hK K; refine hK _ ?_; clear hK K)
                | (refine hX _ ?_; clear hX hY X Y)
                | (refine hY _ ?_; clear hX hY X Y)
                | (refine wp2_block ?_)
                | (refine wp1_block ?_)
                | (refine wp2_region ?_)
                | (refine wp1_region ?_)
                | (refine wp2_cond fun X Y hX hY => ?_)
                | (refine wp1_cond fun X Y hX hY => ?_)
                | (refine condK_of (fun c => ?_) (fun c => ?_) <;> (try simp [-List.length_eq_zero_iff] at c))
                | (refine guard1_or (fun c => ?_) (fun c => ?_) <;> (have cc := c) <;> (try simp [-List.length_eq_zero_iff] at cc) <;> (try simp (disch := omega) [s0, s1, s5, om, s6, o, s7, s8, ml, tl, w4, hf0, c]))
                | (simp (disch := omega) [s0, s1, s5, om, s6, o, s7, s8, ml, tl, w4, hf0]))
              all_goals try (simp [s0, s1, s5, om, s6, o, s7, s8, ml, tl, w4, hf0, Back]; done)
              all_goals first
                | omega
                | (refine hK2 f' _ w2 ⟨f', ?_⟩
                   simp [s0, s1, s5, om, s6, o, s7]
                   refine ⟨by omega, ?_⟩
                   have w5 := z2 hf0
                   rw [← w3, hw] at w5
                   simpa using w5)
      · omega
    · repeat' (first
        | (refine wp2_seq fun K hK => ?_)
        | (refine wp1_seq fun K hK => ?_)
        | (refine M_cons fun K hK => ?_)
        | (refine hK _ ?_; clear hK K)
        | (clear hK K; refine hK _ ?_; clear hK K)
        | (clear hK K; clear hK K; refine hK _ ?_; clear hK K)
        | (clear hK K; clear hK K; clear hK K; refine hK _ ?_; clear hK K)
        | (refine hX _ ?_; clear hX hY X Y)
        | (refine hY _ ?_; clear hX hY X Y)
        | (refine wp2_block ?_)
        | (refine wp1_block ?_)
        | (refine wp2_canon (ops := ⟨some 19, _, _⟩ :: _) [(6, 14)] ?_)
        | (refine wp2_region ?_)
        | (refine wp1_region ?_)
        | (refine wp2_cond fun X Y hX hY => ?_)
        | (refine wp1_cond fun X Y hX hY => ?_)
        | (refine condK_of (fun c => ?_) (fun c => ?_) <;> (try simp [-List.length_eq_zero_iff] at c))
        | (refine guard1_or (fun c => ?_) (fun c => ?_) <;> (have cc := c) <;> (try simp [-List.length_eq_zero_iff] at cc) <;> (try simp (disch := omega) [s0, s1, s5, om, s6, o, s7, tl, c]))
        | (simp (disch := omega) [s0, s1, s5, om, s6, o, s7, tl]))
      all_goals try (simp [s0, s1, s5, om, s6, o, s7, tl, Back]; done)
      all_goals first
        | omega
        | (have : k = r.length := by omega
           subst this
           rw [List.take_length] at o
           exact hJ _ (by simp [s6]) (by simp [o]))
end Cal

/- A calculus of our own: more rules for reckoning: rows of bools, rows of words, parts of rows. -/
set_option linter.unusedSimpArgs false
set_option linter.unusedVariables false
namespace Cal
open Go Go.Proofs
def boolRow (l : List Bool) : List (List T) := l.map fun x => [.v (.bool x)]
def bools (l : List Bool) : T := .sl (boolRow l)
def rdb (l : List Bool) (i : Int) : Bool := l.getD i.toNat false
@[simp] theorem boolRow_length (l : List Bool) : (boolRow l).length = l.length := by simp [boolRow]
@[simp] theorem lenA_bools (k : Nat) (l : List Bool) : lenA (.sl k) (.t (bools l)) = some l.length := by simp [lenA, bools]
theorem boolRow_get {l : List Bool} {i : Nat} (h : i < l.length) : (boolRow l)[i]? = some [.v (.bool (l.getD i false))] := by
  simp [boolRow, h]
@[simp] theorem index_bools (e : Nat) (ag : Bool) (b : Nat) (z : List Value) (l : List Bool) (i : Int) (h0 : 0 ≤ i) (h1 : i < l.length) :
    indexAddrA (some (e, ⟨ag, 1, b, z⟩)) (.t (bools l)) i = some (.roptr [.v (.bool (rdb l i))]) := by
  simp only [indexAddrA, bools, h0, if_true, boolRow_get (l := l) (i := i.toNat) (by omega)]
  rfl
theorem boolRow_set (l : List Bool) (i : Nat) (x : Bool) : (boolRow l).set i [.v (.bool x)] = boolRow (l.set i x) := by
  simp [boolRow, List.map_set]
theorem boolRow_append (l l' : List Bool) : boolRow l ++ boolRow l' = boolRow (l ++ l') := by simp [boolRow]
theorem boolRow_rep (n : Nat) (x : Bool) : List.replicate n [T.v (.bool x)] = boolRow (List.replicate n x) := by simp [boolRow]
@[simp] theorem boolRow_getN (l : List Bool) (i : Nat) (h : i < l.length) : (boolRow l)[i]? = some [.v (.bool (rdb l i))] := by
  rw [boolRow_get h]; simp [rdb]
@[simp] theorem boolRow_getI (l : List Bool) (i : Int) (h0 : 0 ≤ i) (h : i < l.length) : (boolRow l)[i.toNat]? = some [.v (.bool (rdb l i))] := by
  rw [boolRow_get (by omega)]
  rfl
attribute [simp] boolRow_set boolRow_append
theorem take_boolRow (l : List Bool) : (boolRow l).take l.length = boolRow l := by
  have := List.take_length (l := boolRow l)
  rwa [boolRow_length] at this
attribute [simp] take_boolRow
theorem make_bool (d : Nat) (e : Nat) (n : Int) (h0 : 0 ≤ n) (h1 : n ≤ 1099511627776) : makeA d (some (e, ⟨false, 1, 1, [.bool false]⟩)) (.t (.v (.int .i64 n))) (.t (.v (.int .i64 n))) = some (.row (d, 0) 1 0 n.toNat, [((d, 0), some (.row 1 (boolRow (List.replicate n.toNat false))))]) := by
  have h2 : n.toNat ≤ lim := by unfold lim; omega
  simp [makeA, TI.fine, plain, h0, h2, ← boolRow_rep]
attribute [simp] make_bool
theorem eq_of_rdb {a b : List Bool} (h : a.length = b.length) (k : ∀ i : Nat, i < a.length → rdb a i = rdb b i) : a = b := by
  apply List.ext_getElem (by omega)
  intro i hi hj
  have := k i hi
  simp only [rdb, Int.toNat_natCast, List.getD_eq_getElem?_getD] at this
  simpa [hi, hj] using this
theorem rdb_set_ne {l : List Bool} {i j : Nat} {x : Bool} (h : j ≠ i) : rdb (l.set i x) j = rdb l j := by
  unfold rdb
  simp only [Int.toNat_natCast, List.getD_eq_getElem?_getD]
  rw [List.getElem?_set_ne (fun e => h e.symm)]
theorem rdb_set_eq {l : List Bool} {i : Nat} {x : Bool} (h : i < l.length) : rdb (l.set i x) i = x := by
  unfold rdb
  simp only [Int.toNat_natCast, List.getD_eq_getElem?_getD]
  rw [List.getElem?_set_self h]
  rfl
/-! rows of words -/
def wordRow (ws : List (List Int)) : List (List T) := ws.map fun w => [ints w]
def words (ws : List (List Int)) : T := .sl (wordRow ws)
def wd (ws : List (List Int)) (i : Int) : List Int := ws.getD i.toNat []
@[simp] theorem wordRow_length (l : List (List Int)) : (wordRow l).length = l.length := by simp [wordRow]
@[simp] theorem lenA_words (k : Nat) (l : List (List Int)) : lenA (.sl k) (.t (words l)) = some l.length := by simp [lenA, words]
theorem wordRow_get {l : List (List Int)} {i : Nat} (h : i < l.length) : (wordRow l)[i]? = some [ints (l.getD i [])] := by
  simp [wordRow, h]
@[simp] theorem index_words (e : Nat) (ag : Bool) (b : Nat) (z : List Value) (l : List (List Int)) (i : Int) (h0 : 0 ≤ i) (h1 : i < l.length) :
    indexAddrA (some (e, ⟨ag, 1, b, z⟩)) (.t (words l)) i = some (.roptr [ints (wd l i)]) := by
  simp only [indexAddrA, words, h0, if_true, wordRow_get (l := l) (i := i.toNat) (by omega)]
  rfl
theorem wordRow_append (l l' : List (List Int)) : wordRow l ++ wordRow l' = wordRow (l ++ l') := by simp [wordRow]
@[simp] theorem wordRow_snoc (l : List (List Int)) (w : List Int) : wordRow l ++ [[ints w]] = wordRow (l ++ [w]) := wordRow_append l [w]
@[simp] theorem wordRow_getN (l : List (List Int)) (i : Nat) (h : i < l.length) : (wordRow l)[i]? = some [ints (wd l i)] := by
  rw [wordRow_get h]; simp [wd]
@[simp] theorem wordRow_getI (l : List (List Int)) (i : Int) (h0 : 0 ≤ i) (h : i < l.length) : (wordRow l)[i.toNat]? = some [ints (wd l i)] := by
  rw [wordRow_get (by omega)]
  rfl
theorem take_wordRow (l : List (List Int)) : (wordRow l).take l.length = wordRow l := by
  have := List.take_length (l := wordRow l)
  rwa [wordRow_length] at this
theorem wd_nat (ws : List (List Int)) (i : Nat) : wd ws i = ws.getD i [] := by simp [wd]
/-! parts of rows -/
theorem szOK_ints (l : List Int) : szOK 1 (intRow l) = true := by simp [szOK, intRow]
@[simp] theorem slice_from (l : List Int) (i : Int) (h0 : 0 ≤ i) (h1 : i ≤ l.length) : sliceO (.sl 1) (.t (ints l)) (some (some i)) none = some (.t (ints (l.drop i.toNat)), []) := by
  have e : ints l = .sl (intRow l) := rfl
  unfold sliceO
  simp only [Option.bind_some, id, Option.bind_none]
  unfold sliceA
  rw [e]
  dsimp only
  rw [if_pos ⟨szOK_ints l, by simpa using h0, by simpa using h1, by simp⟩]
  simp only [Option.map_some, Option.getD_some, Option.getD_none, intRow_length, window]
  have e2 : (intRow l).drop i.toNat = intRow (l.drop i.toNat) := by simp [intRow, List.map_drop]
  rw [e2, List.take_of_length_le (by simp; omega)]
  rfl
@[simp] theorem slice_to (l : List Int) (i : Int) (h0 : 0 ≤ i) (h1 : i ≤ l.length) : sliceO (.sl 1) (.t (ints l)) none (some (some i)) = some (.t (ints (l.take i.toNat)), []) := by
  have e : ints l = .sl (intRow l) := rfl
  unfold sliceO
  simp only [Option.bind_some, id, Option.bind_none]
  unfold sliceA
  rw [e]
  dsimp only
  rw [if_pos ⟨szOK_ints l, by simp, by simpa using h0, by simpa using h1⟩]
  simp only [Option.map_some, Option.getD_some, Option.getD_none, intRow_length, window]
  simp [intRow, List.map_take, ints]
end Cal

set_option linter.unusedSimpArgs false
set_option linter.unusedVariables false
namespace Cal
open Go Go.Proofs Auto AC
set_option maxRecDepth 100000
/-- The code of slices.Equal[[]int64,int64]. -/
def k48 : Code1 :=
  (.seq
    (.region [] false ([]) [
      ⟨some 4, Op.assign (Operand.const (Value.bool false)), none⟩])
    (.seq
      (.seq
        (.region [] false ([]) [
          ⟨some 6, Op.move (Operand.tmp 0), none⟩,
          ⟨some 7, Op.call { callee := Callee.builtin Builtin.len, args := #[Operand.tmp 6], argTypes := #[22] }, none⟩,
          ⟨some 8, Op.move (Operand.tmp 1), none⟩,
          ⟨some 9, Op.call { callee := Callee.builtin Builtin.len, args := #[Operand.tmp 8], argTypes := #[22] }, none⟩,
          ⟨some 10, Op.binOp BinOp.neq 3 (Operand.tmp 7) (Operand.tmp 9) 3, none⟩])
        (.cond (Operand.tmp 10)
          (.seq
            (.region [] false ([]) [
              ⟨some 4, Op.assign (Operand.const (Value.bool false)), none⟩])
            .ret)
          .skip))
      (.seq
        (.seq
          (.region [] false ([]) [
            ⟨some 11, Op.move (Operand.tmp 0), none⟩,
            ⟨some 12, Op.call { callee := Callee.builtin Builtin.len, args := #[Operand.tmp 11], argTypes := #[22] }, none⟩,
            ⟨some 13, Op.move (Operand.const (Value.int IntKind.i64 0)), none⟩])
          (.block 0
            (.loop
              (.seq
                (.region [] false ([]) [
                  ⟨some 14, Op.binOp BinOp.lss 3 (Operand.tmp 13) (Operand.tmp 12) 3, none⟩])
                (.seq
                  (.cond (Operand.tmp 14)
                    .skip
                    (.exit 0))
                  (.seq
                    (.block 1
                      (.seq
                        (.region [] false ([]) [
                          ⟨some 15, Op.move (Operand.tmp 13), none⟩,
                          ⟨some 5, Op.assign (Operand.tmp 15), none⟩])
                        (.seq
                          (.region [] true ([]) [
                            ⟨some 16, Op.move (Operand.tmp 0), none⟩,
                            ⟨some 17, Op.move (Operand.tmp 5), none⟩,
                            ⟨some 18, Op.indexAddr 22 (Operand.tmp 16) (Operand.tmp 17), none⟩,
                            ⟨some 19, Op.load 2 (Operand.tmp 18), none⟩,
                            ⟨some 20, Op.move (Operand.tmp 1), none⟩,
                            ⟨some 21, Op.move (Operand.tmp 5), none⟩,
                            ⟨some 22, Op.indexAddr 22 (Operand.tmp 20) (Operand.tmp 21), none⟩,
                            ⟨some 23, Op.load 2 (Operand.tmp 22), none⟩,
                            ⟨some 24, Op.binOp BinOp.neq 2 (Operand.tmp 19) (Operand.tmp 23) 2, none⟩])
                          (.cond (Operand.tmp 24)
                            (.seq
                              (.region [] false ([]) [
                                ⟨some 4, Op.assign (Operand.const (Value.bool false)), none⟩])
                              .ret)
                            .skip))))
                    (.region [] false ([]) [
                      ⟨some 25, Op.binOp BinOp.add 3 (Operand.tmp 13) (Operand.const (Value.int IntKind.i64 1)) 3, none⟩,
                      ⟨some 13, Op.move (Operand.tmp 25), none⟩])))))))
        (.seq
          (.region [] false ([]) [
            ⟨some 4, Op.assign (Operand.const (Value.bool true)), none⟩])
          .ret))))
theorem equal_c (a b : List Int) (ha : a.length ≤ 1048576) (hb : b.length ≤ 1048576) :
    CallsF Try.prog 48 [.val (ints a), .val (ints b)] (.t (.v (.bool (decide (a = b))))) [] := by
  refine callsF_of_wp1 (fn := Try.f48) (k := k48) (fun _ => []) mixed (by kernel_rfl) rfl (by kernel_rfl) (by kernel_rfl) (by kernel_rfl) rfl (by simp [Try.f48]) (by simp [Arg.like]) ?_
  generalize hst : St.enter [.val (ints a), .val (ints b)] = st0
  have t0 : st0.tm 0 = .t (ints a) := by rw [← hst]; rfl
  have t1 : st0.tm 1 = .t (ints b) := by rw [← hst]; rfl
  clear hst
  unfold k48
  repeat' (first
    | (refine wp2_seq fun K hK => ?_)
    | (refine wp1_seq fun K hK => ?_)
    | (refine M_cons fun K hK => ?_)
    | (refine hK _ ?_; clear hK K)
    | (clear hK K; refine hK _ ?_; clear hK K)
    | (clear hK K; clear hK K; refine hK _ ?_; clear hK K)
    | (clear hK K; clear hK K; clear hK K; refine hK _ ?_; clear hK K)
    | (refine hX _ ?_; clear hX hY X Y)
    | (refine hY _ ?_; clear hX hY X Y)
    | (refine wp2_block ?_)
    | (refine wp1_block ?_)
    | (refine wp2_region ?_)
    | (refine wp1_region ?_)
    | (refine wp2_cond fun X Y hX hY => ?_)
    | (refine wp1_cond fun X Y hX hY => ?_)
    | (refine condK_of (fun c => ?_) (fun c => ?_) <;> (try simp [-List.length_eq_zero_iff] at c))
    | (refine guard1_or (fun c => ?_) (fun c => ?_) <;> (have cc := c) <;> (try simp [-List.length_eq_zero_iff] at cc) <;> (try simp (disch := omega) [t0, t1, c]))
    | (simp (disch := omega) [t0, t1]))
  all_goals try (simp [t0, t1, Back]; done)
  · have : ¬ a = b := fun e => c (by rw [e])
    simp [Back, this]
  have hJ : a = b → ∀ s, K s := by
    rintro rfl s
    repeat' (first
      | (refine wp2_seq fun K hK => ?_)
      | (refine wp1_seq fun K hK => ?_)
      | (refine M_cons fun K hK => ?_)
      | (refine hK _ ?_; clear hK K)
      | (clear hK K; refine hK _ ?_; clear hK K)
      | (clear hK K; clear hK K; refine hK _ ?_; clear hK K)
      | (clear hK K; clear hK K; clear hK K; refine hK _ ?_; clear hK K)
      | (refine hX _ ?_; clear hX hY X Y)
      | (refine hY _ ?_; clear hX hY X Y)
      | (refine wp2_block ?_)
      | (refine wp1_block ?_)
      | (refine wp2_region ?_)
      | (refine wp1_region ?_)
      | (refine wp2_cond fun X Y hX hY => ?_)
      | (refine wp1_cond fun X Y hX hY => ?_)
      | (refine condK_of (fun c => ?_) (fun c => ?_) <;> (try simp [-List.length_eq_zero_iff] at c))
      | (refine guard1_or (fun c => ?_) (fun c => ?_) <;> (have cc := c) <;> (try simp [-List.length_eq_zero_iff] at cc) <;> (try simp (disch := omega) [c]))
      | (simp (disch := omega) []))
    all_goals try (simp [Back]; done)
  clear hK
  refine wp1_loop (fun n s => ∃ k : Nat, s.tm 0 = .t (ints a) ∧ s.tm 1 = .t (ints b) ∧ s.tm 12 = .t (.v (.int .i64 a.length)) ∧ s.tm 13 = .t (.v (.int .i64 k)) ∧ k ≤ a.length ∧ n = a.length - k ∧ ∀ i < k, rd a i = rd b i) a.length ?_ ?_
  · exact ⟨0, by simp [t0, t1]⟩
  · rintro n s ⟨k, s0, s1, s12, s13, hk, rfl, heq⟩ K' hK'
    repeat' (first
      | (refine wp2_seq fun K hK => ?_)
      | (refine wp1_seq fun K hK => ?_)
      | (refine M_cons fun K hK => ?_)
      | (refine hK _ ?_; clear hK K)
      | (clear hK K; refine hK _ ?_; clear hK K)
      | (clear hK K; clear hK K; refine hK _ ?_; clear hK K)
      | (clear hK K; clear hK K; clear hK K; refine hK _ ?_; clear hK K)
      | (refine hX _ ?_; clear hX hY X Y)
      | (refine hY _ ?_; clear hX hY X Y)
      | (refine wp2_block ?_)
      | (refine wp1_block ?_)
      | (refine wp2_region ?_)
      | (refine wp1_region ?_)
      | (refine wp2_cond fun X Y hX hY => ?_)
      | (refine wp1_cond fun X Y hX hY => ?_)
      | (refine condK_of (fun c => ?_) (fun c => ?_) <;> (try simp [-List.length_eq_zero_iff] at c))
      | (refine guard1_or (fun c => ?_) (fun c => ?_) <;> (have cc := c) <;> (try simp [-List.length_eq_zero_iff] at cc) <;> (try simp (disch := omega) [s0, s1, s12, s13, c]))
      | (simp (disch := omega) [s0, s1, s12, s13]))
    all_goals try (simp [s0, s1, s12, s13, Back]; done)
    · have : ¬ a = b := fun e => c (by rw [e])
      simp [Back, this]
    · refine hK' (a.length - (k + 1)) _ (by omega) ⟨k + 1, ?_⟩
      simp [s0, s1, s12]
      exact ⟨by omega, below_succ heq c⟩
    · exact hJ (eq_of_rd (by omega) fun i hi => heq i (by omega)) _
/-- The code of spec.l2Same. -/
def k86 : Code1 :=
  (.seq
    (.region [] false ([]) [
      ⟨some 4, Op.assign (Operand.const (Value.bool false)), none⟩])
    (.seq
      (.seq
        (.region [] false ([]) [
          ⟨some 6, Op.move (Operand.tmp 0), none⟩,
          ⟨some 7, Op.call { callee := Callee.builtin Builtin.len, args := #[Operand.tmp 6], argTypes := #[22] }, none⟩,
          ⟨some 8, Op.move (Operand.tmp 1), none⟩,
          ⟨some 9, Op.call { callee := Callee.builtin Builtin.len, args := #[Operand.tmp 8], argTypes := #[22] }, none⟩,
          ⟨some 10, Op.binOp BinOp.neq 3 (Operand.tmp 7) (Operand.tmp 9) 3, none⟩])
        (.cond (Operand.tmp 10)
          (.seq
            (.region [] false ([]) [
              ⟨some 4, Op.assign (Operand.const (Value.bool false)), none⟩])
            .ret)
          .skip))
      (.seq
        (.seq
          (.region [] false ([]) [
            ⟨some 5, Op.assign (Operand.const (Value.int IntKind.i64 0)), none⟩])
          (.block 0
            (.loop
              (.seq
                (.seq
                  (.region [] false ([]) [
                    ⟨some 11, Op.move (Operand.tmp 5), none⟩,
                    ⟨some 12, Op.move (Operand.tmp 0), none⟩,
                    ⟨some 13, Op.call { callee := Callee.builtin Builtin.len, args := #[Operand.tmp 12], argTypes := #[22] }, none⟩,
                    ⟨some 14, Op.binOp BinOp.lss 3 (Operand.tmp 11) (Operand.tmp 13) 3, none⟩])
                  (.cond (Operand.tmp 14)
                    .skip
                    (.exit 0)))
                (.seq
                  (.block 1
                    (.seq
                      (.region [] true ([]) [
                        ⟨some 17, Op.move (Operand.tmp 0), none⟩,
                        ⟨some 18, Op.move (Operand.tmp 5), none⟩,
                        ⟨some 19, Op.indexAddr 22 (Operand.tmp 17) (Operand.tmp 18), none⟩,
                        ⟨some 20, Op.load 2 (Operand.tmp 19), none⟩,
                        ⟨some 21, Op.move (Operand.tmp 1), none⟩,
                        ⟨some 22, Op.move (Operand.tmp 5), none⟩,
                        ⟨some 23, Op.indexAddr 22 (Operand.tmp 21) (Operand.tmp 22), none⟩,
                        ⟨some 24, Op.load 2 (Operand.tmp 23), none⟩,
                        ⟨some 25, Op.binOp BinOp.neq 2 (Operand.tmp 20) (Operand.tmp 24) 2, none⟩])
                      (.cond (Operand.tmp 25)
                        (.seq
                          (.region [] false ([]) [
                            ⟨some 4, Op.assign (Operand.const (Value.bool false)), none⟩])
                          .ret)
                        .skip)))
                  (.region [] false ([]) [
                    ⟨some 15, Op.move (Operand.tmp 5), none⟩,
                    ⟨some 16, Op.binOp BinOp.add 3 (Operand.tmp 15) (Operand.const (Value.int IntKind.i64 1)) 3, none⟩,
                    ⟨some 5, Op.assign (Operand.tmp 16), none⟩]))))))
        (.seq
          (.region [] false ([]) [
            ⟨some 4, Op.assign (Operand.const (Value.bool true)), none⟩])
          .ret))))
theorem same_c (a b : List Int) (ha : a.length ≤ 1048576) (hb : b.length ≤ 1048576) :
    CallsF Try.prog 86 [.val (ints a), .val (ints b)] (.t (.v (.bool (decide (a = b))))) [] := by
  refine callsF_of_wp1 (fn := Try.f86) (k := k86) (fun _ => []) mixed (by kernel_rfl) rfl (by kernel_rfl) (by kernel_rfl) (by kernel_rfl) rfl (by simp [Try.f86]) (by simp [Arg.like]) ?_
  generalize hst : St.enter [.val (ints a), .val (ints b)] = st0
  have t0 : st0.tm 0 = .t (ints a) := by rw [← hst]; rfl
  have t1 : st0.tm 1 = .t (ints b) := by rw [← hst]; rfl
  clear hst
  unfold k86
  repeat' (first
    | (refine wp2_seq fun K hK => ?_)
    | (refine wp1_seq fun K hK => ?_)
    | (refine M_cons fun K hK => ?_)
    | (refine hK _ ?_; clear hK K)
    | (clear hK K; refine hK _ ?_; clear hK K)
    | (clear hK K; clear hK K; refine hK _ ?_; clear hK K)
    | (clear hK K; clear hK K; clear hK K; refine hK _ ?_; clear hK K)
    | (refine hX _ ?_; clear hX hY X Y)
    | (refine hY _ ?_; clear hX hY X Y)
    | (refine wp2_block ?_)
    | (refine wp1_block ?_)
    | (refine wp2_region ?_)
    | (refine wp1_region ?_)
    | (refine wp2_cond fun X Y hX hY => ?_)
    | (refine wp1_cond fun X Y hX hY => ?_)
    | (refine condK_of (fun c => ?_) (fun c => ?_) <;> (try simp [-List.length_eq_zero_iff] at c))
    | (refine guard1_or (fun c => ?_) (fun c => ?_) <;> (have cc := c) <;> (try simp [-List.length_eq_zero_iff] at cc) <;> (try simp (disch := omega) [t0, t1, c]))
    | (simp (disch := omega) [t0, t1]))
  all_goals try (simp [t0, t1, Back]; done)
  · have : ¬ a = b := fun e => c (by rw [e])
    simp [Back, this]
  have hJ : a = b → ∀ s, K s := by
    rintro rfl s
    repeat' (first
      | (refine wp2_seq fun K hK => ?_)
      | (refine wp1_seq fun K hK => ?_)
      | (refine M_cons fun K hK => ?_)
      | (refine hK _ ?_; clear hK K)
      | (clear hK K; refine hK _ ?_; clear hK K)
      | (clear hK K; clear hK K; refine hK _ ?_; clear hK K)
      | (clear hK K; clear hK K; clear hK K; refine hK _ ?_; clear hK K)
      | (refine hX _ ?_; clear hX hY X Y)
      | (refine hY _ ?_; clear hX hY X Y)
      | (refine wp2_block ?_)
      | (refine wp1_block ?_)
      | (refine wp2_region ?_)
      | (refine wp1_region ?_)
      | (refine wp2_cond fun X Y hX hY => ?_)
      | (refine wp1_cond fun X Y hX hY => ?_)
      | (refine condK_of (fun c => ?_) (fun c => ?_) <;> (try simp [-List.length_eq_zero_iff] at c))
      | (refine guard1_or (fun c => ?_) (fun c => ?_) <;> (have cc := c) <;> (try simp [-List.length_eq_zero_iff] at cc) <;> (try simp (disch := omega) [c]))
      | (simp (disch := omega) []))
    all_goals try (simp [Back]; done)
  clear hK
  refine wp1_loop (fun n s => ∃ k : Nat, s.tm 0 = .t (ints a) ∧ s.tm 1 = .t (ints b) ∧ s.tm 5 = .t (.v (.int .i64 k)) ∧ k ≤ a.length ∧ n = a.length - k ∧ ∀ i < k, rd a i = rd b i) a.length ?_ ?_
  · exact ⟨0, by simp [t0, t1]⟩
  · rintro n s ⟨k, s0, s1, s5, hk, rfl, heq⟩ K' hK'
    repeat' (first
      | (refine wp2_seq fun K hK => ?_)
      | (refine wp1_seq fun K hK => ?_)
      | (refine M_cons fun K hK => ?_)
      | (refine hK _ ?_; clear hK K)
      | (clear hK K; refine hK _ ?_; clear hK K)
      | (clear hK K; clear hK K; refine hK _ ?_; clear hK K)
      | (clear hK K; clear hK K; clear hK K; refine hK _ ?_; clear hK K)
      | (refine hX _ ?_; clear hX hY X Y)
      | (refine hY _ ?_; clear hX hY X Y)
      | (refine wp2_block ?_)
      | (refine wp1_block ?_)
      | (refine wp2_region ?_)
      | (refine wp1_region ?_)
      | (refine wp2_cond fun X Y hX hY => ?_)
      | (refine wp1_cond fun X Y hX hY => ?_)
      | (refine condK_of (fun c => ?_) (fun c => ?_) <;> (try simp [-List.length_eq_zero_iff] at c))
      | (refine guard1_or (fun c => ?_) (fun c => ?_) <;> (have cc := c) <;> (try simp [-List.length_eq_zero_iff] at cc) <;> (try simp (disch := omega) [s0, s1, s5, c]))
      | (simp (disch := omega) [s0, s1, s5]))
    all_goals try (simp [s0, s1, s5, Back]; done)
    · have : ¬ a = b := fun e => c (by rw [e])
      simp [Back, this]
    · refine hK' (a.length - (k + 1)) _ (by omega) ⟨k + 1, ?_⟩
      simp [s0, s1, s5]
      exact ⟨by omega, below_succ heq c⟩
    · exact hJ (eq_of_rd (by omega) fun i hi => heq i (by omega)) _
/-! the order of words -/
theorem lex_first' : ∀ {a b : List Int} {j : Nat}, a.length = b.length → j < a.length → (∀ i < j, a.getD i 0 = b.getD i 0) → a.getD j 0 ≠ b.getD j 0 → Short.lex a b = decide (a.getD j 0 < b.getD j 0)
  | [], _, j, _, h, _, _ => by simp at h
  | _ :: _, [], _, h, _, _, _ => by simp at h
  | x :: a, y :: b, 0, _, _, _, hne => by
    simp at hne
    simp [Short.lex, hne]
  | x :: a, y :: b, j + 1, hl, hj, hall, hne => by
    have h0 := hall 0 (by omega)
    simp at h0
    have ih := lex_first' (a := a) (b := b) (j := j) (by simpa using hl) (by simpa using hj) (fun i hi => by simpa using hall (i + 1) (by omega)) (by simpa using hne)
    simp only [Short.lex, h0, if_true]
    rw [ih]
    simp
theorem lex_first {a b : List Int} (h : a.length = b.length) {j : Nat} (hj : j < a.length) (hall : ∀ i < j, rd a i = rd b i) (hne : rd a j ≠ rd b j) : Short.lex a b = decide (rd a j < rd b j) := by
  rw [rd_getD, rd_getD] at hne ⊢
  exact lex_first' h hj (fun i hi => by have := hall i hi; rwa [rd_getD, rd_getD] at this) hne
/-- The code of spec.l3Before. -/
def k74 : Code1 :=
  (.seq
    (.region [] false ([]) [
      ⟨some 4, Op.assign (Operand.const (Value.bool false)), none⟩])
    (.seq
      (.seq
        (.region [] false ([]) [
          ⟨some 6, Op.move (Operand.tmp 0), none⟩,
          ⟨some 7, Op.call { callee := Callee.builtin Builtin.len, args := #[Operand.tmp 6], argTypes := #[22] }, none⟩,
          ⟨some 8, Op.move (Operand.tmp 1), none⟩,
          ⟨some 9, Op.call { callee := Callee.builtin Builtin.len, args := #[Operand.tmp 8], argTypes := #[22] }, none⟩,
          ⟨some 10, Op.binOp BinOp.neq 3 (Operand.tmp 7) (Operand.tmp 9) 3, none⟩])
        (.cond (Operand.tmp 10)
          (.seq
            (.region [] false ([]) [
              ⟨some 11, Op.move (Operand.tmp 0), none⟩,
              ⟨some 12, Op.call { callee := Callee.builtin Builtin.len, args := #[Operand.tmp 11], argTypes := #[22] }, none⟩,
              ⟨some 13, Op.move (Operand.tmp 1), none⟩,
              ⟨some 14, Op.call { callee := Callee.builtin Builtin.len, args := #[Operand.tmp 13], argTypes := #[22] }, none⟩,
              ⟨some 15, Op.binOp BinOp.lss 3 (Operand.tmp 12) (Operand.tmp 14) 3, none⟩,
              ⟨some 4, Op.assign (Operand.tmp 15), none⟩])
            .ret)
          .skip))
      (.seq
        (.seq
          (.region [] false ([]) [
            ⟨some 5, Op.assign (Operand.const (Value.int IntKind.i64 0)), none⟩])
          (.block 0
            (.loop
              (.seq
                (.seq
                  (.region [] false ([]) [
                    ⟨some 16, Op.move (Operand.tmp 5), none⟩,
                    ⟨some 17, Op.move (Operand.tmp 0), none⟩,
                    ⟨some 18, Op.call { callee := Callee.builtin Builtin.len, args := #[Operand.tmp 17], argTypes := #[22] }, none⟩,
                    ⟨some 19, Op.binOp BinOp.lss 3 (Operand.tmp 16) (Operand.tmp 18) 3, none⟩])
                  (.cond (Operand.tmp 19)
                    .skip
                    (.exit 0)))
                (.seq
                  (.block 1
                    (.seq
                      (.region [] true ([]) [
                        ⟨some 22, Op.move (Operand.tmp 0), none⟩,
                        ⟨some 23, Op.move (Operand.tmp 5), none⟩,
                        ⟨some 24, Op.indexAddr 22 (Operand.tmp 22) (Operand.tmp 23), none⟩,
                        ⟨some 25, Op.load 2 (Operand.tmp 24), none⟩,
                        ⟨some 26, Op.move (Operand.tmp 1), none⟩,
                        ⟨some 27, Op.move (Operand.tmp 5), none⟩,
                        ⟨some 28, Op.indexAddr 22 (Operand.tmp 26) (Operand.tmp 27), none⟩,
                        ⟨some 29, Op.load 2 (Operand.tmp 28), none⟩,
                        ⟨some 30, Op.binOp BinOp.neq 2 (Operand.tmp 25) (Operand.tmp 29) 2, none⟩])
                      (.cond (Operand.tmp 30)
                        (.seq
                          (.region [] true ([]) [
                            ⟨some 31, Op.move (Operand.tmp 0), none⟩,
                            ⟨some 32, Op.move (Operand.tmp 5), none⟩,
                            ⟨some 33, Op.indexAddr 22 (Operand.tmp 31) (Operand.tmp 32), none⟩,
                            ⟨some 34, Op.load 2 (Operand.tmp 33), none⟩,
                            ⟨some 35, Op.move (Operand.tmp 1), none⟩,
                            ⟨some 36, Op.move (Operand.tmp 5), none⟩,
                            ⟨some 37, Op.indexAddr 22 (Operand.tmp 35) (Operand.tmp 36), none⟩,
                            ⟨some 38, Op.load 2 (Operand.tmp 37), none⟩,
                            ⟨some 39, Op.binOp BinOp.lss 2 (Operand.tmp 34) (Operand.tmp 38) 2, none⟩,
                            ⟨some 4, Op.assign (Operand.tmp 39), none⟩])
                          .ret)
                        .skip)))
                  (.region [] false ([]) [
                    ⟨some 20, Op.move (Operand.tmp 5), none⟩,
                    ⟨some 21, Op.binOp BinOp.add 3 (Operand.tmp 20) (Operand.const (Value.int IntKind.i64 1)) 3, none⟩,
                    ⟨some 5, Op.assign (Operand.tmp 21), none⟩]))))))
        (.seq
          (.region [] false ([]) [
            ⟨some 4, Op.assign (Operand.const (Value.bool false)), none⟩])
          .ret))))
theorem before_c (a b : List Int) (ha : a.length ≤ 1048576) (hb : b.length ≤ 1048576) :
    CallsF Try.prog 74 [.val (ints a), .val (ints b)] (.t (.v (.bool (Short.before a b)))) [] := by
  refine callsF_of_wp1 (fn := Try.f74) (k := k74) (fun _ => []) mixed (by kernel_rfl) rfl (by kernel_rfl) (by kernel_rfl) (by kernel_rfl) rfl (by simp [Try.f74]) (by simp [Arg.like]) ?_
  generalize hst : St.enter [.val (ints a), .val (ints b)] = st0
  have t0 : st0.tm 0 = .t (ints a) := by rw [← hst]; rfl
  have t1 : st0.tm 1 = .t (ints b) := by rw [← hst]; rfl
  clear hst
  unfold k74
  by_cases hl : a.length = b.length
  · have hb1 : Short.before a b = Short.lex a b := by unfold Short.before; rw [if_pos hl]
    repeat' (first
      | (refine wp2_seq fun K hK => ?_)
      | (refine wp1_seq fun K hK => ?_)
      | (refine M_cons fun K hK => ?_)
      | (refine hK _ ?_; clear hK K)
      | (clear hK K; refine hK _ ?_; clear hK K)
      | (clear hK K; clear hK K; refine hK _ ?_; clear hK K)
      | (clear hK K; clear hK K; clear hK K; refine hK _ ?_; clear hK K)
      | (refine hX _ ?_; clear hX hY X Y)
      | (refine hY _ ?_; clear hX hY X Y)
      | (refine wp2_block ?_)
      | (refine wp1_block ?_)
      | (refine wp2_region ?_)
      | (refine wp1_region ?_)
      | (refine wp2_cond fun X Y hX hY => ?_)
      | (refine wp1_cond fun X Y hX hY => ?_)
      | (refine condK_of (fun c => ?_) (fun c => ?_) <;> (try simp [-List.length_eq_zero_iff] at c))
      | (refine guard1_or (fun c => ?_) (fun c => ?_) <;> (have cc := c) <;> (try simp [-List.length_eq_zero_iff] at cc) <;> (try simp (disch := omega) [t0, t1, hl, c]))
      | (simp (disch := omega) [t0, t1, hl]))
    all_goals try (simp [t0, t1, hl, Back]; done)
    have hJ : a = b → ∀ s, K s := by
      rintro rfl s
      have : Short.before a a = false := Short.before_irrefl a
      repeat' (first
        | (refine wp2_seq fun K hK => ?_)
        | (refine wp1_seq fun K hK => ?_)
        | (refine M_cons fun K hK => ?_)
        | (refine hK _ ?_; clear hK K)
        | (clear hK K; refine hK _ ?_; clear hK K)
        | (clear hK K; clear hK K; refine hK _ ?_; clear hK K)
        | (clear hK K; clear hK K; clear hK K; refine hK _ ?_; clear hK K)
        | (refine hX _ ?_; clear hX hY X Y)
        | (refine hY _ ?_; clear hX hY X Y)
        | (refine wp2_block ?_)
        | (refine wp1_block ?_)
        | (refine wp2_region ?_)
        | (refine wp1_region ?_)
        | (refine wp2_cond fun X Y hX hY => ?_)
        | (refine wp1_cond fun X Y hX hY => ?_)
        | (refine condK_of (fun c => ?_) (fun c => ?_) <;> (try simp [-List.length_eq_zero_iff] at c))
        | (refine guard1_or (fun c => ?_) (fun c => ?_) <;> (have cc := c) <;> (try simp [-List.length_eq_zero_iff] at cc) <;> (try simp (disch := omega) [this, c]))
        | (simp (disch := omega) [this]))
      all_goals try (simp [this, Back]; done)
    clear hK
    refine wp1_loop (fun n s => ∃ k : Nat, s.tm 0 = .t (ints a) ∧ s.tm 1 = .t (ints b) ∧ s.tm 5 = .t (.v (.int .i64 k)) ∧ k ≤ a.length ∧ n = a.length - k ∧ ∀ i < k, rd a i = rd b i) a.length ?_ ?_
    · exact ⟨0, by simp [t0, t1]⟩
    · rintro n s ⟨k, s0, s1, s5, hk, rfl, heq⟩ K' hK'
      by_cases hne : k < a.length ∧ rd a k ≠ rd b k
      · have := lex_first hl hne.1 heq hne.2
        rw [← hb1] at this
        repeat' (first
          | (refine wp2_seq fun K hK => ?_)
          | (refine wp1_seq fun K hK => ?_)
          | (refine M_cons fun K hK => ?_)
          | (refine hK _ ?_; clear hK K)
          | (clear hK K; refine hK _ ?_; clear hK K)
          | (clear hK K; clear hK K; refine hK _ ?_; clear hK K)
          | (clear hK K; clear hK K; clear hK K; refine hK _ ?_; clear hK K)
          | (refine hX _ ?_; clear hX hY X Y)
          | (refine hY _ ?_; clear hX hY X Y)
          | (refine wp2_block ?_)
          | (refine wp1_block ?_)
          | (refine wp2_region ?_)
          | (refine wp1_region ?_)
          | (refine wp2_cond fun X Y hX hY => ?_)
          | (refine wp1_cond fun X Y hX hY => ?_)
          | (refine condK_of (fun c => ?_) (fun c => ?_) <;> (try simp [-List.length_eq_zero_iff] at c))
          | (refine guard1_or (fun c => ?_) (fun c => ?_) <;> (have cc := c) <;> (try simp [-List.length_eq_zero_iff] at cc) <;> (try simp (disch := omega) [s0, s1, s5, this, c]))
          | (simp (disch := omega) [s0, s1, s5, this]))
        all_goals try (simp [s0, s1, s5, this, Back]; done)
        all_goals first | omega | (simp [Back, this]; done) | skip
      · repeat' (first
          | (refine wp2_seq fun K hK => ?_)
          | (refine wp1_seq fun K hK => ?_)
          | (refine M_cons fun K hK => ?_)
          | (refine hK _ ?_; clear hK K)
          | (clear hK K; refine hK _ ?_; clear hK K)
          | (clear hK K; clear hK K; refine hK _ ?_; clear hK K)
          | (clear hK K; clear hK K; clear hK K; refine hK _ ?_; clear hK K)
          | (refine hX _ ?_; clear hX hY X Y)
          | (refine hY _ ?_; clear hX hY X Y)
          | (refine wp2_block ?_)
          | (refine wp1_block ?_)
          | (refine wp2_region ?_)
          | (refine wp1_region ?_)
          | (refine wp2_cond fun X Y hX hY => ?_)
          | (refine wp1_cond fun X Y hX hY => ?_)
          | (refine condK_of (fun c => ?_) (fun c => ?_) <;> (try simp [-List.length_eq_zero_iff] at c))
          | (refine guard1_or (fun c => ?_) (fun c => ?_) <;> (have cc := c) <;> (try simp [-List.length_eq_zero_iff] at cc) <;> (try simp (disch := omega) [s0, s1, s5, c]))
          | (simp (disch := omega) [s0, s1, s5]))
        all_goals try (simp [s0, s1, s5, Back]; done)
        all_goals first
          | omega
          | (refine hK' (a.length - (k + 1)) _ (by omega) ⟨k + 1, ?_⟩
             simp [s0, s1, s5]
             exact ⟨by omega, below_succ heq c⟩)
          | exact hJ (eq_of_rd (by omega) fun i hi => heq i (by omega)) _
  · have hb1 : Short.before a b = decide (a.length < b.length) := by unfold Short.before; rw [if_neg hl]
    repeat' (first
      | (refine wp2_seq fun K hK => ?_)
      | (refine wp1_seq fun K hK => ?_)
      | (refine M_cons fun K hK => ?_)
      | (refine hK _ ?_; clear hK K)
      | (clear hK K; refine hK _ ?_; clear hK K)
      | (clear hK K; clear hK K; refine hK _ ?_; clear hK K)
      | (clear hK K; clear hK K; clear hK K; refine hK _ ?_; clear hK K)
      | (refine hX _ ?_; clear hX hY X Y)
      | (refine hY _ ?_; clear hX hY X Y)
      | (refine wp2_block ?_)
      | (refine wp1_block ?_)
      | (refine wp2_region ?_)
      | (refine wp1_region ?_)
      | (refine wp2_cond fun X Y hX hY => ?_)
      | (refine wp1_cond fun X Y hX hY => ?_)
      | (refine condK_of (fun c => ?_) (fun c => ?_) <;> (try simp [-List.length_eq_zero_iff] at c))
      | (refine guard1_or (fun c => ?_) (fun c => ?_) <;> (have cc := c) <;> (try simp [-List.length_eq_zero_iff] at cc) <;> (try simp (disch := omega) [t0, t1, hl, hb1, c]))
      | (simp (disch := omega) [t0, t1, hl, hb1]))
    all_goals try (simp [t0, t1, hl, hb1, Back]; done)
    all_goals omega
end Cal

set_option linter.unusedSimpArgs false
set_option linter.unusedVariables false
namespace Cal
open Go Go.Proofs Auto AC
set_option maxRecDepth 100000
/-- The code of spec.l2Plus. -/
def k73 : Code1 :=
  (.seq
    (.region [] false ([]) [
      ⟨some 4, Op.assign (Operand.const (Value.slice none 0 0)), none⟩])
    (.seq
      (.region [8] false ([]) [
        ⟨some 8, Op.buildSlice 22 0 #[], none⟩,
        ⟨some 5, Op.assign (Operand.tmp 8), none⟩])
      (.seq
        (.seq
          (.region [] false ([]) [
            ⟨some 6, Op.assign (Operand.const (Value.int IntKind.i64 0)), none⟩])
          (.block 0
            (.loop
              (.seq
                (.seq
                  (.region [] false ([]) [
                    ⟨some 9, Op.move (Operand.tmp 6), none⟩,
                    ⟨some 10, Op.move (Operand.tmp 0), none⟩,
                    ⟨some 11, Op.call { callee := Callee.builtin Builtin.len, args := #[Operand.tmp 10], argTypes := #[22] }, none⟩,
                    ⟨some 12, Op.binOp BinOp.lss 3 (Operand.tmp 9) (Operand.tmp 11) 3, none⟩])
                  (.cond (Operand.tmp 12)
                    .skip
                    (.exit 0)))
                (.seq
                  (.block 1
                    (.region [20, 21] false ([]) [
                      ⟨some 15, Op.move (Operand.tmp 5), none⟩,
                      ⟨some 16, Op.move (Operand.tmp 0), none⟩,
                      ⟨some 17, Op.move (Operand.tmp 6), none⟩,
                      ⟨some 18, Op.indexAddr 22 (Operand.tmp 16) (Operand.tmp 17), none⟩,
                      ⟨some 19, Op.load 2 (Operand.tmp 18), none⟩,
                      ⟨some 20, Op.buildSlice 22 1 #[(0, Operand.tmp 19)], none⟩,
                      ⟨some 21, Op.call { callee := Callee.builtin Builtin.append, args := #[Operand.tmp 15, Operand.tmp 20], argTypes := #[22, 22] }, none⟩,
                      ⟨some 5, Op.assign (Operand.tmp 21), none⟩]))
                  (.region [] false ([]) [
                    ⟨some 13, Op.move (Operand.tmp 6), none⟩,
                    ⟨some 14, Op.binOp BinOp.add 3 (Operand.tmp 13) (Operand.const (Value.int IntKind.i64 1)) 3, none⟩,
                    ⟨some 6, Op.assign (Operand.tmp 14), none⟩]))))))
        (.seq
          (.seq
            (.region [] false ([]) [
              ⟨some 7, Op.assign (Operand.const (Value.int IntKind.i64 0)), none⟩])
            (.block 2
              (.loop
                (.seq
                  (.seq
                    (.region [] false ([]) [
                      ⟨some 22, Op.move (Operand.tmp 7), none⟩,
                      ⟨some 23, Op.move (Operand.tmp 1), none⟩,
                      ⟨some 24, Op.call { callee := Callee.builtin Builtin.len, args := #[Operand.tmp 23], argTypes := #[22] }, none⟩,
                      ⟨some 25, Op.binOp BinOp.lss 3 (Operand.tmp 22) (Operand.tmp 24) 3, none⟩])
                    (.cond (Operand.tmp 25)
                      .skip
                      (.exit 2)))
                  (.seq
                    (.block 3
                      (.region [33, 34] false ([]) [
                        ⟨some 28, Op.move (Operand.tmp 5), none⟩,
                        ⟨some 29, Op.move (Operand.tmp 1), none⟩,
                        ⟨some 30, Op.move (Operand.tmp 7), none⟩,
                        ⟨some 31, Op.indexAddr 22 (Operand.tmp 29) (Operand.tmp 30), none⟩,
                        ⟨some 32, Op.load 2 (Operand.tmp 31), none⟩,
                        ⟨some 33, Op.buildSlice 22 1 #[(0, Operand.tmp 32)], none⟩,
                        ⟨some 34, Op.call { callee := Callee.builtin Builtin.append, args := #[Operand.tmp 28, Operand.tmp 33], argTypes := #[22, 22] }, none⟩,
                        ⟨some 5, Op.assign (Operand.tmp 34), none⟩]))
                    (.region [] false ([]) [
                      ⟨some 26, Op.move (Operand.tmp 7), none⟩,
                      ⟨some 27, Op.binOp BinOp.add 3 (Operand.tmp 26) (Operand.const (Value.int IntKind.i64 1)) 3, none⟩,
                      ⟨some 7, Op.assign (Operand.tmp 27), none⟩]))))))
          (.seq
            (.region [] false ([]) [
              ⟨some 35, Op.move (Operand.tmp 5), none⟩,
              ⟨some 4, Op.assign (Operand.tmp 35), none⟩])
            .ret)))))
theorem plus_c (a b : List Int) (ha : a.length ≤ 1048576) (hb : b.length ≤ 1048576) :
    CallsF Try.prog 73 [.val (ints a), .val (ints b)] (.own 1 (intRow (a ++ b))) [] := by
  refine callsF_of_wp2 (fn := Try.f73) (k := k73) (fun _ => []) mixed (by kernel_rfl) rfl (by kernel_rfl) (by kernel_rfl) (by kernel_rfl) rfl (by simp [Try.f73]) (by simp [Arg.like]) ?_
  generalize hst : St.enter [.val (ints a), .val (ints b)] = st0
  have t0 : st0.tm 0 = .t (ints a) := by rw [← hst]; rfl
  have t1 : st0.tm 1 = .t (ints b) := by rw [← hst]; rfl
  clear hst
  unfold k73
  repeat' (first
    | (refine wp2_seq fun K hK => ?_)
    | (refine wp1_seq fun K hK => ?_)
    | (refine M_cons fun K hK => ?_)
    | (refine hK _ ?_; clear hK K)
    | (clear hK K; refine hK _ ?_; clear hK K)
    | (clear hK K; clear hK K; refine hK _ ?_; clear hK K)
    | (clear hK K; clear hK K; clear hK K; refine hK _ ?_; clear hK K)
    | (refine hX _ ?_; clear hX hY X Y)
    | (refine hY _ ?_; clear hX hY X Y)
    | (refine wp2_block ?_)
    | (refine wp1_block ?_)
    | (refine wp2_region ?_)
    | (refine wp1_region ?_)
    | (refine wp2_cond fun X Y hX hY => ?_)
    | (refine wp1_cond fun X Y hX hY => ?_)
    | (refine condK_of (fun c => ?_) (fun c => ?_) <;> (try simp [-List.length_eq_zero_iff] at c))
    | (refine guard1_or (fun c => ?_) (fun c => ?_) <;> (have cc := c) <;> (try simp [-List.length_eq_zero_iff] at cc) <;> (try simp (disch := omega) [t0, t1, c]))
    | (simp (disch := omega) [t0, t1]))
  all_goals try (simp [t0, t1, Back]; done)
  have hJ : ∀ s, s.tm 0 = .t (ints a) → s.tm 1 = .t (ints b) → s.tm 5 = .row (8, 0) 1 0 a.length → s.ob (8, 0) = some (.row 1 (intRow a)) → K s := by
    intro s s0 s1 s5 o
    repeat' (first
      | (refine wp2_seq fun K hK => ?_)
      | (refine wp1_seq fun K hK => ?_)
      | (refine M_cons fun K hK => ?_)
      | (refine hK _ ?_; clear hK K)
      | (clear hK K; refine hK _ ?_; clear hK K)
      | (clear hK K; clear hK K; refine hK _ ?_; clear hK K)
      | (clear hK K; clear hK K; clear hK K; refine hK _ ?_; clear hK K)
      | (refine hX _ ?_; clear hX hY X Y)
      | (refine hY _ ?_; clear hX hY X Y)
      | (refine wp2_block ?_)
      | (refine wp1_block ?_)
      | (refine wp2_region ?_)
      | (refine wp1_region ?_)
      | (refine wp2_cond fun X Y hX hY => ?_)
      | (refine wp1_cond fun X Y hX hY => ?_)
      | (refine condK_of (fun c => ?_) (fun c => ?_) <;> (try simp [-List.length_eq_zero_iff] at c))
      | (refine guard1_or (fun c => ?_) (fun c => ?_) <;> (have cc := c) <;> (try simp [-List.length_eq_zero_iff] at cc) <;> (try simp (disch := omega) [s0, s1, s5, o, c]))
      | (simp (disch := omega) [s0, s1, s5, o]))
    all_goals try (simp [s0, s1, s5, o, Back]; done)
    have hJ : ∀ s, s.tm 5 = .row (8, 0) 1 0 (a ++ b).length → s.ob (8, 0) = some (.row 1 (intRow (a ++ b))) → K s := by
      intro s s5 o
      rw [List.length_append] at s5
      repeat' (first
        | (refine wp2_seq fun K hK => ?_)
        | (refine wp1_seq fun K hK => ?_)
        | (refine M_cons fun K hK => ?_)
        | (refine hK _ ?_; clear hK K)
        | (clear hK K; refine hK _ ?_; clear hK K)
        | (clear hK K; clear hK K; refine hK _ ?_; clear hK K)
        | (clear hK K; clear hK K; clear hK K; refine hK _ ?_; clear hK K)
        | (refine hX _ ?_; clear hX hY X Y)
        | (refine hY _ ?_; clear hX hY X Y)
        | (refine wp2_block ?_)
        | (refine wp1_block ?_)
        | (refine wp2_region ?_)
        | (refine wp1_region ?_)
        | (refine wp2_cond fun X Y hX hY => ?_)
        | (refine wp1_cond fun X Y hX hY => ?_)
        | (refine condK_of (fun c => ?_) (fun c => ?_) <;> (try simp [-List.length_eq_zero_iff] at c))
        | (refine guard1_or (fun c => ?_) (fun c => ?_) <;> (have cc := c) <;> (try simp [-List.length_eq_zero_iff] at cc) <;> (try simp (disch := omega) [s5, o, c]))
        | (simp (disch := omega) [s5, o]))
      all_goals try (simp [s5, o, Back]; done)
    clear hK
    refine wp2_loop (fun n s => ∃ k : Nat, s.tm 1 = .t (ints b) ∧ s.tm 5 = .row (8, 0) 1 0 (a.length + k) ∧ s.ob (8, 0) = some (.row 1 (intRow (a ++ b.take k))) ∧ s.tm 7 = .t (.v (.int .i64 k)) ∧ k ≤ b.length ∧ n = b.length - k) b.length ?_ ?_
    · exact ⟨0, by simp [s1, s5, o]⟩
    · rintro n s ⟨k, s1, s5, o, s7, hk, rfl⟩ K' hK'
      have tl : (b.take k).length = k := by rw [List.length_take]; omega
      by_cases hkl : k < b.length
      · have q := take_snoc hkl
        have tl2 : (a ++ b.take k).length = a.length + k := by rw [List.length_append, tl]
        repeat' (first
          | (refine wp2_seq fun K hK => ?_)
          | (refine wp1_seq fun K hK => ?_)
          | (refine M_cons fun K hK => ?_)
          | (refine hK _ ?_; clear hK K)
          | (clear hK K; refine hK _ ?_; clear hK K)
          | (clear hK K; clear hK K; refine hK _ ?_; clear hK K)
          | (clear hK K; clear hK K; clear hK K; refine hK _ ?_; clear hK K)
          | (refine hX _ ?_; clear hX hY X Y)
          | (refine hY _ ?_; clear hX hY X Y)
          | (refine wp2_block ?_)
          | (refine wp1_block ?_)
          | (refine wp2_canon (ops := ⟨some 26, _, _⟩ :: _) [(5, 8)] ?_)
          | (refine wp2_region ?_)
          | (refine wp1_region ?_)
          | (refine wp2_cond fun X Y hX hY => ?_)
          | (refine wp1_cond fun X Y hX hY => ?_)
          | (refine condK_of (fun c => ?_) (fun c => ?_) <;> (try simp [-List.length_eq_zero_iff] at c))
          | (refine guard1_or (fun c => ?_) (fun c => ?_) <;> (have cc := c) <;> (try simp [-List.length_eq_zero_iff] at cc) <;> (try simp (disch := omega) [s1, s5, o, s7, tl, tl2, c]))
          | (simp (disch := omega) [s1, s5, o, s7, tl, tl2]))
        all_goals try (simp [s1, s5, o, s7, tl, tl2, Back]; done)
        all_goals first
          | omega
          | (refine hK' (b.length - (k + 1)) _ (by omega) ⟨k + 1, ?_⟩
             simp [s1, ← q]
             omega)
      · have hkl : k = b.length := by omega
        subst hkl
        rw [List.take_length] at o
        repeat' (first
          | (refine wp2_seq fun K hK => ?_)
          | (refine wp1_seq fun K hK => ?_)
          | (refine M_cons fun K hK => ?_)
          | (refine hK _ ?_; clear hK K)
          | (clear hK K; refine hK _ ?_; clear hK K)
          | (clear hK K; clear hK K; refine hK _ ?_; clear hK K)
          | (clear hK K; clear hK K; clear hK K; refine hK _ ?_; clear hK K)
          | (refine hX _ ?_; clear hX hY X Y)
          | (refine hY _ ?_; clear hX hY X Y)
          | (refine wp2_block ?_)
          | (refine wp1_block ?_)
          | (refine wp2_region ?_)
          | (refine wp1_region ?_)
          | (refine wp2_cond fun X Y hX hY => ?_)
          | (refine wp1_cond fun X Y hX hY => ?_)
          | (refine condK_of (fun c => ?_) (fun c => ?_) <;> (try simp [-List.length_eq_zero_iff] at c))
          | (refine guard1_or (fun c => ?_) (fun c => ?_) <;> (have cc := c) <;> (try simp [-List.length_eq_zero_iff] at cc) <;> (try simp (disch := omega) [s1, s5, o, s7, c]))
          | (simp (disch := omega) [s1, s5, o, s7]))
        all_goals try (simp [s1, s5, o, s7, Back]; done)
        exact hJ _ (by simp [s5]) (by simp [o])
  clear hK
  refine wp2_loop (fun n s => ∃ k : Nat, s.tm 0 = .t (ints a) ∧ s.tm 1 = .t (ints b) ∧ s.tm 5 = .row (8, 0) 1 0 k ∧ s.ob (8, 0) = some (.row 1 (intRow (a.take k))) ∧ s.tm 6 = .t (.v (.int .i64 k)) ∧ k ≤ a.length ∧ n = a.length - k) a.length ?_ ?_
  · exact ⟨0, by simp [t0, t1, intRow]⟩
  · rintro n s ⟨k, s0, s1, s5, o, s6, hk, rfl⟩ K' hK'
    have tl : (a.take k).length = k := by rw [List.length_take]; omega
    by_cases hkl : k < a.length
    · have q := take_snoc hkl
      repeat' (first
        | (refine wp2_seq fun K hK => ?_)
        | (refine wp1_seq fun K hK => ?_)
        | (refine M_cons fun K hK => ?_)
        | (refine hK _ ?_; clear hK K)
        | (clear hK K; refine hK _ ?_; clear hK K)
        | (clear hK K; clear hK K; refine hK _ ?_; clear hK K)
        | (clear hK K; clear hK K; clear hK K; refine hK _ ?_; clear hK K)
        | (refine hX _ ?_; clear hX hY X Y)
        | (refine hY _ ?_; clear hX hY X Y)
        | (refine wp2_block ?_)
        | (refine wp1_block ?_)
        | (refine wp2_canon (ops := ⟨some 13, _, _⟩ :: _) [(5, 8)] ?_)
        | (refine wp2_region ?_)
        | (refine wp1_region ?_)
        | (refine wp2_cond fun X Y hX hY => ?_)
        | (refine wp1_cond fun X Y hX hY => ?_)
        | (refine condK_of (fun c => ?_) (fun c => ?_) <;> (try simp [-List.length_eq_zero_iff] at c))
        | (refine guard1_or (fun c => ?_) (fun c => ?_) <;> (have cc := c) <;> (try simp [-List.length_eq_zero_iff] at cc) <;> (try simp (disch := omega) [s0, s1, s5, o, s6, tl, c]))
        | (simp (disch := omega) [s0, s1, s5, o, s6, tl]))
      all_goals try (simp [s0, s1, s5, o, s6, tl, Back]; done)
      all_goals first
        | omega
        | (refine hK' (a.length - (k + 1)) _ (by omega) ⟨k + 1, ?_⟩
           simp [s0, s1, ← q]
           omega)
    · have hkl : k = a.length := by omega
      subst hkl
      rw [List.take_length] at o
      repeat' (first
        | (refine wp2_seq fun K hK => ?_)
        | (refine wp1_seq fun K hK => ?_)
        | (refine M_cons fun K hK => ?_)
        | (refine hK _ ?_; clear hK K)
        | (clear hK K; refine hK _ ?_; clear hK K)
        | (clear hK K; clear hK K; refine hK _ ?_; clear hK K)
        | (clear hK K; clear hK K; clear hK K; refine hK _ ?_; clear hK K)
        | (refine hX _ ?_; clear hX hY X Y)
        | (refine hY _ ?_; clear hX hY X Y)
        | (refine wp2_block ?_)
        | (refine wp1_block ?_)
        | (refine wp2_region ?_)
        | (refine wp1_region ?_)
        | (refine wp2_cond fun X Y hX hY => ?_)
        | (refine wp1_cond fun X Y hX hY => ?_)
        | (refine condK_of (fun c => ?_) (fun c => ?_) <;> (try simp [-List.length_eq_zero_iff] at c))
        | (refine guard1_or (fun c => ?_) (fun c => ?_) <;> (have cc := c) <;> (try simp [-List.length_eq_zero_iff] at cc) <;> (try simp (disch := omega) [s0, s1, s5, o, s6, c]))
        | (simp (disch := omega) [s0, s1, s5, o, s6]))
      all_goals try (simp [s0, s1, s5, o, s6, Back]; done)
      exact hJ _ (by simp [s0]) (by simp [s1]) (by simp [s5]) (by simp [o])
/-! places among rising words -/
def place : List (List Int) → List Int → Nat
  | [], _ => 0
  | x :: xs, w => if Short.before x w = true then place xs w + 1 else 0
theorem place_eq : ∀ {ws : List (List Int)} {w : List Int} {p : Nat}, p ≤ ws.length → (∀ i < p, Short.before (ws.getD i []) w = true) → (p < ws.length → Short.before (ws.getD p []) w = false) → place ws w = p
  | [], w, p, hp, _, _ => by simp at hp; subst hp; rfl
  | x :: xs, w, 0, _, _, h => by
    have := h (by simp)
    simp at this
    simp [place, this]
  | x :: xs, w, p + 1, hp, h1, h2 => by
    have h0 := h1 0 (by omega)
    simp only [List.getD_cons_zero] at h0
    simp only [place, h0, if_true]
    rw [place_eq (by simpa using hp) (fun i hi => by have := h1 (i + 1) (by omega); rwa [List.getD_cons_succ] at this) (fun hlt => by have := h2 (by simpa using hlt); rwa [List.getD_cons_succ] at this)]
theorem place_le : ∀ (ws : List (List Int)) (w : List Int), place ws w ≤ ws.length
  | [], _ => Nat.le_refl _
  | x :: xs, w => by
    unfold place
    split
    · simp [place_le xs w]
    · omega
def stI (ws : List (List Int)) (w : List Int) : Int := if place ws w < ws.length ∧ ws.getD (place ws w) [] = w then place ws w else -1
theorem stI_at {ws : List (List Int)} (h : Short.Rising ws) {i : Nat} (hi : i < ws.length) {w : List Int} (hw : ws.getD i [] = w) : stI ws w = i := by
  have g : ∀ {j : Nat} (hj : j < ws.length), ws.getD j [] = ws[j] := fun {j} hj => by rw [List.getD_eq_getElem?_getD, List.getElem?_eq_getElem hj]; rfl
  have e : place ws w = i := place_eq (by omega) (fun j hj => by
      rw [g (by omega), ← hw, g hi]
      exact h.lt hj hi) (fun _ => by rw [hw]; exact Short.before_irrefl w)
  unfold stI
  rw [e, if_pos ⟨hi, hw⟩]
theorem stI_not {ws : List (List Int)} {w : List Int} (hw : w ∉ ws) : stI ws w = -1 := by
  unfold stI
  rw [if_neg]
  rintro ⟨h1, h2⟩
  exact hw (h2 ▸ mem_getD h1)
theorem stI_mem {ws : List (List Int)} (h : Short.Rising ws) {w : List Int} (hw : w ∈ ws) : 0 ≤ stI ws w ∧ stI ws w < ws.length ∧ ws.getD (stI ws w).toNat [] = w := by
  obtain ⟨i, hi, he⟩ := List.mem_iff_getElem.1 hw
  have hg : ws.getD i [] = w := by rw [List.getD_eq_getElem?_getD, List.getElem?_eq_getElem hi]; exact he
  rw [stI_at h hi hg]
  exact ⟨by omega, by omega, by simpa using hg⟩
/-- Words of a length that the calculus takes. -/
structure Wds (ws : List (List Int)) : Prop where
  rise : Short.Rising ws
  len : ws.length ≤ 100000
  each : ∀ i : Nat, i < ws.length → (ws.getD i []).length ≤ 100000
/-- The code of spec.l3Place. -/
def k85 : Code1 :=
  (.seq
    (.region [] false ([]) [
      ⟨some 4, Op.assign (Operand.const (Value.int IntKind.i64 0)), none⟩])
    (.seq
      (.region [] false ([]) [
        ⟨some 5, Op.assign (Operand.const (Value.int IntKind.i64 0)), none⟩])
      (.seq
        (.region [] false ([]) [
          ⟨some 8, Op.move (Operand.tmp 0), none⟩,
          ⟨some 9, Op.call { callee := Callee.builtin Builtin.len, args := #[Operand.tmp 8], argTypes := #[68] }, none⟩,
          ⟨some 6, Op.assign (Operand.tmp 9), none⟩])
        (.seq
          (.block 0
            (.loop
              (.seq
                (.seq
                  (.region [] false ([]) [
                    ⟨some 10, Op.move (Operand.tmp 5), none⟩,
                    ⟨some 11, Op.move (Operand.tmp 6), none⟩,
                    ⟨some 12, Op.binOp BinOp.lss 3 (Operand.tmp 10) (Operand.tmp 11) 3, none⟩])
                  (.cond (Operand.tmp 12)
                    .skip
                    (.exit 0)))
                (.block 1
                  (.seq
                    (.region [] false ([]) [
                      ⟨some 13, Op.move (Operand.tmp 5), none⟩,
                      ⟨some 14, Op.move (Operand.tmp 6), none⟩,
                      ⟨some 15, Op.binOp BinOp.add 3 (Operand.tmp 13) (Operand.tmp 14) 3, none⟩,
                      ⟨some 16, Op.binOp BinOp.quo 3 (Operand.tmp 15) (Operand.const (Value.int IntKind.i64 2)) 3, none⟩,
                      ⟨some 7, Op.assign (Operand.tmp 16), none⟩])
                    (.seq
                      (.region [23] false ([]) [
                        ⟨some 17, Op.move (Operand.tmp 0), none⟩,
                        ⟨some 18, Op.move (Operand.tmp 7), none⟩,
                        ⟨some 19, Op.indexAddr 68 (Operand.tmp 17) (Operand.tmp 18), none⟩,
                        ⟨some 20, Op.fieldAddr 72 (Operand.tmp 19) 0, none⟩,
                        ⟨some 21, Op.load 22 (Operand.tmp 20), none⟩,
                        ⟨some 22, Op.move (Operand.tmp 1), none⟩,
                        ⟨some 23, Op.call { callee := Callee.value (Operand.func 74), args := #[Operand.tmp 21, Operand.tmp 22], argTypes := #[22, 22] }, none⟩])
                      (.cond (Operand.tmp 23)
                        (.region [] false ([]) [
                          ⟨some 24, Op.move (Operand.tmp 7), none⟩,
                          ⟨some 25, Op.binOp BinOp.add 3 (Operand.tmp 24) (Operand.const (Value.int IntKind.i64 1)) 3, none⟩,
                          ⟨some 5, Op.assign (Operand.tmp 25), none⟩])
                        (.region [] false ([]) [
                          ⟨some 26, Op.move (Operand.tmp 7), none⟩,
                          ⟨some 6, Op.assign (Operand.tmp 26), none⟩]))))))))
          (.seq
            (.region [] false ([]) [
              ⟨some 27, Op.move (Operand.tmp 5), none⟩,
              ⟨some 4, Op.assign (Operand.tmp 27), none⟩])
            .ret)))))
set_option maxHeartbeats 1000000 in
theorem place_c {ws : List (List Int)} {w : List Int} (hW : Wds ws) (hw : w.length ≤ 1048576) :
    CallsF Try.prog 85 [.val (words ws), .val (ints w)] (.t (.v (.int .i64 (place ws w)))) [] := by
  have l1 := hW.len
  refine callsF_of_wp2 (fn := Try.f85) (k := k85) (fun _ => []) mixed (by kernel_rfl) rfl (by kernel_rfl) (by kernel_rfl) (by kernel_rfl) rfl (by simp [Try.f85]) (by simp [Arg.like]) ?_
  generalize hst : St.enter [.val (words ws), .val (ints w)] = st0
  have t0 : st0.tm 0 = .t (words ws) := by rw [← hst]; rfl
  have t1 : st0.tm 1 = .t (ints w) := by rw [← hst]; rfl
  clear hst
  unfold k85
  repeat' (first
    | (refine wp2_seq fun K hK => ?_)
    | (refine wp1_seq fun K hK => ?_)
    | (refine M_cons fun K hK => ?_)
    | (refine hK _ ?_; clear hK K)
    | (clear hK K; refine hK _ ?_; clear hK K)
    | (clear hK K; clear hK K; refine hK _ ?_; clear hK K)
    | (clear hK K; clear hK K; clear hK K; refine hK _ ?_; clear hK K)
    | (refine hX _ ?_; clear hX hY X Y)
    | (refine hY _ ?_; clear hX hY X Y)
    | (refine wp2_block ?_)
    | (refine wp1_block ?_)
    | (refine wp2_region ?_)
    | (refine wp1_region ?_)
    | (refine wp2_cond fun X Y hX hY => ?_)
    | (refine wp1_cond fun X Y hX hY => ?_)
    | (refine condK_of (fun c => ?_) (fun c => ?_) <;> (try simp [-List.length_eq_zero_iff] at c))
    | (refine guard1_or (fun c => ?_) (fun c => ?_) <;> (have cc := c) <;> (try simp [-List.length_eq_zero_iff] at cc) <;> (try simp (disch := omega) [t0, t1, c]))
    | (simp (disch := omega) [t0, t1]))
  all_goals try (simp [t0, t1, Back]; done)
  have hJ : ∀ s, s.tm 5 = .t (.v (.int .i64 (place ws w))) → K s := by
    intro s s5
    repeat' (first
      | (refine wp2_seq fun K hK => ?_)
      | (refine wp1_seq fun K hK => ?_)
      | (refine M_cons fun K hK => ?_)
      | (refine hK _ ?_; clear hK K)
      | (clear hK K; refine hK _ ?_; clear hK K)
      | (clear hK K; clear hK K; refine hK _ ?_; clear hK K)
      | (clear hK K; clear hK K; clear hK K; refine hK _ ?_; clear hK K)
      | (refine hX _ ?_; clear hX hY X Y)
      | (refine hY _ ?_; clear hX hY X Y)
      | (refine wp2_block ?_)
      | (refine wp1_block ?_)
      | (refine wp2_region ?_)
      | (refine wp1_region ?_)
      | (refine wp2_cond fun X Y hX hY => ?_)
      | (refine wp1_cond fun X Y hX hY => ?_)
      | (refine condK_of (fun c => ?_) (fun c => ?_) <;> (try simp [-List.length_eq_zero_iff] at c))
      | (refine guard1_or (fun c => ?_) (fun c => ?_) <;> (have cc := c) <;> (try simp [-List.length_eq_zero_iff] at cc) <;> (try simp (disch := omega) [s5, c]))
      | (simp (disch := omega) [s5]))
    all_goals try (simp [s5, Back]; done)
  clear hK
  have mono : ∀ i j : Nat, i ≤ j → j < ws.length → Short.before (ws.getD j []) w = true → Short.before (ws.getD i []) w = true := fun i j hij hj h => by
    rcases Nat.lt_or_eq_of_le hij with hlt | rfl
    · have g : ∀ {j : Nat} (hj : j < ws.length), ws.getD j [] = ws[j] := fun {j} hj => by rw [List.getD_eq_getElem?_getD, List.getElem?_eq_getElem hj]; rfl
      rw [g (by omega)]
      rw [g hj] at h
      exact Short.before_trans (hW.rise.lt hlt hj) h
    · exact h
  refine wp2_loop (fun n s => ∃ lo hi : Nat, s.tm 0 = .t (words ws) ∧ s.tm 1 = .t (ints w) ∧ s.tm 5 = .t (.v (.int .i64 lo)) ∧ s.tm 6 = .t (.v (.int .i64 hi)) ∧ lo ≤ hi ∧ hi ≤ ws.length ∧ n = hi - lo ∧ (∀ i < lo, Short.before (ws.getD i []) w = true) ∧ ∀ i : Nat, hi ≤ i → i < ws.length → Short.before (ws.getD i []) w = false) ws.length ?_ ?_
  · refine ⟨0, ws.length, ?_⟩
    simp [t0, t1]
    intro i h1 h2
    omega
  · rintro n s ⟨lo, hi, s0, s1, s5, s6, hl, hh, rfl, ha, hb⟩ K' hK'
    by_cases hlt : lo < hi
    · have e1 : ((lo : Int) + hi).tdiv 2 = ((lo + hi) / 2 : Nat) := by
        rw [Int.tdiv_eq_ediv_of_nonneg (by omega)]
        omega
      generalize hm : (lo + hi) / 2 = mid at e1
      have hm1 : lo ≤ mid ∧ mid < hi := by omega
      have e3 : wd ws mid = ws.getD mid [] := wd_nat ws mid
      have e2 := hW.each mid (by omega)
      rw [← e3] at e2
      cases hbm : Short.before (wd ws mid) w with
      | true =>
        repeat' (first
          | (refine wp2_seq fun K hK => ?_)
          | (refine wp1_seq fun K hK => ?_)
          | (refine M_cons fun K hK => ?_)
          | (refine hK _ ?_; clear hK K)
          | (clear hK K; refine hK _ ?_; clear hK K)
          | (clear hK K; clear hK K; refine hK _ ?_; clear hK K)
          | (clear hK K; clear hK K; clear hK K; refine hK _ ?_; clear hK K)
          | (refine hX _ ?_; clear hX hY X Y)
          | (refine hY _ ?_; clear hX hY X Y)
          | (refine wp2_block ?_)
          | (refine wp1_block ?_)
          | (refine wp2_region ?_)
          | (refine wp1_region ?_)
          | (refine wp2_cond fun X Y hX hY => ?_)
          | (refine wp1_cond fun X Y hX hY => ?_)
          | (refine condK_of (fun c => ?_) (fun c => ?_) <;> (try simp [-List.length_eq_zero_iff] at c))
          | (refine guard1_or (fun c => ?_) (fun c => ?_) <;> (have cc := c) <;> (try simp [-List.length_eq_zero_iff] at cc) <;> (try simp (disch := omega) [s0, s1, s5, s6, e1, hbm, c]))
          | (refine callT_fl (before_c _ _ ?_ ?_) (by simp [St.args, St.arg, s0, s1, s5, s6, e1, hbm] <;> first | rfl | ((repeat' first | rfl | apply And.intro); done)) (by first | (simp [RV.flat, RV.flats, T.flat]; done) | ((repeat' first | exact flat_intRow _ | exact trivial | constructor | unfold RV.flat | unfold RV.flats); done)) (by simp [mutsOf]) ?_; omega; omega)
          | (simp (disch := omega) [s0, s1, s5, s6, e1, hbm]))
        all_goals try (simp [s0, s1, s5, s6, e1, hbm, Back]; done)
        all_goals first
          | omega
          | (refine hK' (hi - (mid + 1)) _ (by omega) ⟨mid + 1, hi, ?_⟩
             simp [s0, s1, s6]
             refine ⟨by omega, hh, fun i hi' => ?_, hb⟩
             have := mono i mid (by omega) (by omega) (by rw [← e3]; exact hbm)
             simpa using this)
      | false =>
        repeat' (first
          | (refine wp2_seq fun K hK => ?_)
          | (refine wp1_seq fun K hK => ?_)
          | (refine M_cons fun K hK => ?_)
          | (refine hK _ ?_; clear hK K)
          | (clear hK K; refine hK _ ?_; clear hK K)
          | (clear hK K; clear hK K; refine hK _ ?_; clear hK K)
          | (clear hK K; clear hK K; clear hK K; refine hK _ ?_; clear hK K)
          | (refine hX _ ?_; clear hX hY X Y)
          | (refine hY _ ?_; clear hX hY X Y)
          | (refine wp2_block ?_)
          | (refine wp1_block ?_)
          | (refine wp2_region ?_)
          | (refine wp1_region ?_)
          | (refine wp2_cond fun X Y hX hY => ?_)
          | (refine wp1_cond fun X Y hX hY => ?_)
          | (refine condK_of (fun c => ?_) (fun c => ?_) <;> (try simp [-List.length_eq_zero_iff] at c))
          | (refine guard1_or (fun c => ?_) (fun c => ?_) <;> (have cc := c) <;> (try simp [-List.length_eq_zero_iff] at cc) <;> (try simp (disch := omega) [s0, s1, s5, s6, e1, hbm, c]))
          | (refine callT_fl (before_c _ _ ?_ ?_) (by simp [St.args, St.arg, s0, s1, s5, s6, e1, hbm] <;> first | rfl | ((repeat' first | rfl | apply And.intro); done)) (by first | (simp [RV.flat, RV.flats, T.flat]; done) | ((repeat' first | exact flat_intRow _ | exact trivial | constructor | unfold RV.flat | unfold RV.flats); done)) (by simp [mutsOf]) ?_; omega; omega)
          | (simp (disch := omega) [s0, s1, s5, s6, e1, hbm]))
        all_goals try (simp [s0, s1, s5, s6, e1, hbm, Back]; done)
        all_goals first
          | omega
          | (refine hK' (mid - lo) _ (by omega) ⟨lo, mid, ?_⟩
             simp [s0, s1, s5]
             refine ⟨by omega, by omega, ha, fun i h1 h2 => ?_⟩
             cases hc : Short.before (ws.getD i []) w with
             | false => simpa using hc
             | true => exact absurd (mono mid i h1 h2 hc) (by rw [← e3, hbm]; simp))
    · have hlh : lo = hi := by omega
      subst hlh
      have e := place_eq hh ha (fun h => hb lo (Nat.le_refl _) h)
      repeat' (first
        | (refine wp2_seq fun K hK => ?_)
        | (refine wp1_seq fun K hK => ?_)
        | (refine M_cons fun K hK => ?_)
        | (refine hK _ ?_; clear hK K)
        | (clear hK K; refine hK _ ?_; clear hK K)
        | (clear hK K; clear hK K; refine hK _ ?_; clear hK K)
        | (clear hK K; clear hK K; clear hK K; refine hK _ ?_; clear hK K)
        | (refine hX _ ?_; clear hX hY X Y)
        | (refine hY _ ?_; clear hX hY X Y)
        | (refine wp2_block ?_)
        | (refine wp1_block ?_)
        | (refine wp2_region ?_)
        | (refine wp1_region ?_)
        | (refine wp2_cond fun X Y hX hY => ?_)
        | (refine wp1_cond fun X Y hX hY => ?_)
        | (refine condK_of (fun c => ?_) (fun c => ?_) <;> (try simp [-List.length_eq_zero_iff] at c))
        | (refine guard1_or (fun c => ?_) (fun c => ?_) <;> (have cc := c) <;> (try simp [-List.length_eq_zero_iff] at cc) <;> (try simp (disch := omega) [s0, s1, s5, s6, c]))
        | (simp (disch := omega) [s0, s1, s5, s6]))
      all_goals try (simp [s0, s1, s5, s6, Back]; done)
      all_goals first
        | omega
        | exact hJ _ (by simp [s5, e])
/-- The code of spec.l3State. -/
def k75 : Code1 :=
  (.seq
    (.region [] false ([]) [
      ⟨some 4, Op.assign (Operand.const (Value.int IntKind.i64 0)), none⟩])
    (.seq
      (.region [8] false ([]) [
        ⟨some 6, Op.move (Operand.tmp 0), none⟩,
        ⟨some 7, Op.move (Operand.tmp 1), none⟩,
        ⟨some 8, Op.call { callee := Callee.value (Operand.func 85), args := #[Operand.tmp 6, Operand.tmp 7], argTypes := #[68, 22] }, none⟩,
        ⟨some 5, Op.assign (Operand.tmp 8), none⟩])
      (.seq
        (.seq
          (.region [20] false ([]) [
            ⟨some 9, Op.move (Operand.tmp 5), none⟩,
            ⟨some 10, Op.move (Operand.tmp 0), none⟩,
            ⟨some 11, Op.call { callee := Callee.builtin Builtin.len, args := #[Operand.tmp 10], argTypes := #[68] }, none⟩,
            ⟨some 12, Op.binOp BinOp.lss 3 (Operand.tmp 9) (Operand.tmp 11) 3, none⟩,
            ⟨some 13, Op.move (Operand.tmp 12), none⟩,
            ⟨some 14, Op.move (Operand.tmp 0), some (13, true)⟩,
            ⟨some 15, Op.move (Operand.tmp 5), some (13, true)⟩,
            ⟨some 16, Op.indexAddr 68 (Operand.tmp 14) (Operand.tmp 15), some (13, true)⟩,
            ⟨some 17, Op.fieldAddr 72 (Operand.tmp 16) 0, some (13, true)⟩,
            ⟨some 18, Op.load 22 (Operand.tmp 17), some (13, true)⟩,
            ⟨some 19, Op.move (Operand.tmp 1), some (13, true)⟩,
            ⟨some 20, Op.call { callee := Callee.value (Operand.func 86), args := #[Operand.tmp 18, Operand.tmp 19], argTypes := #[22, 22] }, some (13, true)⟩,
            ⟨some 21, Op.pick (Operand.tmp 13) (Operand.tmp 20) (Operand.const (Value.bool false)), none⟩])
          (.cond (Operand.tmp 21)
            (.seq
              (.region [] false ([]) [
                ⟨some 22, Op.move (Operand.tmp 5), none⟩,
                ⟨some 4, Op.assign (Operand.tmp 22), none⟩])
              .ret)
            .skip))
        (.seq
          (.region [] false ([]) [
            ⟨some 4, Op.assign (Operand.const (Value.int IntKind.i64 (-1))), none⟩])
          .ret))))
theorem state_c {ws : List (List Int)} {w : List Int} (hW : Wds ws) (hw : w.length ≤ 1048576) :
    CallsF Try.prog 75 [.val (words ws), .val (ints w)] (.t (.v (.int .i64 (stI ws w)))) [] := by
  have l1 := hW.len
  have l2 := place_le ws w
  refine callsF_of_wp2 (fn := Try.f75) (k := k75) (fun _ => []) mixed (by kernel_rfl) rfl (by kernel_rfl) (by kernel_rfl) (by kernel_rfl) rfl (by simp [Try.f75]) (by simp [Arg.like]) ?_
  generalize hst : St.enter [.val (words ws), .val (ints w)] = st0
  have t0 : st0.tm 0 = .t (words ws) := by rw [← hst]; rfl
  have t1 : st0.tm 1 = .t (ints w) := by rw [← hst]; rfl
  clear hst
  unfold k75
  have e3 : wd ws (place ws w) = ws.getD (place ws w) [] := wd_nat ws _
  by_cases h1 : place ws w < ws.length
  · have e2 := hW.each _ h1
    rw [← e3] at e2
    by_cases h2 : wd ws (place ws w) = w
    · have h3 : stI ws w = place ws w := by unfold stI; rw [if_pos ⟨h1, e3 ▸ h2⟩]
      repeat' (first
        | (refine wp2_seq fun K hK => ?_)
        | (refine wp1_seq fun K hK => ?_)
        | (refine M_cons fun K hK => ?_)
        | (refine hK _ ?_; clear hK K)
        | (clear hK K; refine hK _ ?_; clear hK K)
        | (clear hK K; clear hK K; refine hK _ ?_; clear hK K)
        | (clear hK K; clear hK K; clear hK K; refine hK _ ?_; clear hK K)
        | (refine hX _ ?_; clear hX hY X Y)
        | (refine hY _ ?_; clear hX hY X Y)
        | (refine wp2_block ?_)
        | (refine wp1_block ?_)
        | (refine wp2_region ?_)
        | (refine wp1_region ?_)
        | (refine wp2_cond fun X Y hX hY => ?_)
        | (refine wp1_cond fun X Y hX hY => ?_)
        | (refine condK_of (fun c => ?_) (fun c => ?_) <;> (try simp [-List.length_eq_zero_iff] at c))
        | (refine guard1_or (fun c => ?_) (fun c => ?_) <;> (have cc := c) <;> (try simp [-List.length_eq_zero_iff] at cc) <;> (try simp (disch := omega) [t0, t1, h1, h3, h2, c]))
        | (refine callT_fl (place_c hW hw) (by simp [St.args, St.arg, t0, t1, h1, h3, h2] <;> first | rfl | ((repeat' first | rfl | apply And.intro); done)) (by first | (simp [RV.flat, RV.flats, T.flat]; done) | ((repeat' first | exact flat_intRow _ | exact trivial | constructor | unfold RV.flat | unfold RV.flats); done)) (by simp [mutsOf]) ?_)
        | (refine callT_fl (same_c _ _ ?_ ?_) (by simp [St.args, St.arg, t0, t1, h1, h3, h2] <;> first | rfl | ((repeat' first | rfl | apply And.intro); done)) (by first | (simp [RV.flat, RV.flats, T.flat]; done) | ((repeat' first | exact flat_intRow _ | exact trivial | constructor | unfold RV.flat | unfold RV.flats); done)) (by simp [mutsOf]) ?_; omega; omega)
        | (simp (disch := omega) [t0, t1, h1, h3, h2]))
      all_goals try (simp [t0, t1, h1, h3, h2, Back]; done)
      all_goals omega
    · have h3 : stI ws w = -1 := by unfold stI; rw [if_neg (fun h => h2 (e3 ▸ h.2))]
      repeat' (first
        | (refine wp2_seq fun K hK => ?_)
        | (refine wp1_seq fun K hK => ?_)
        | (refine M_cons fun K hK => ?_)
        | (refine hK _ ?_; clear hK K)
        | (clear hK K; refine hK _ ?_; clear hK K)
        | (clear hK K; clear hK K; refine hK _ ?_; clear hK K)
        | (clear hK K; clear hK K; clear hK K; refine hK _ ?_; clear hK K)
        | (refine hX _ ?_; clear hX hY X Y)
        | (refine hY _ ?_; clear hX hY X Y)
        | (refine wp2_block ?_)
        | (refine wp1_block ?_)
        | (refine wp2_region ?_)
        | (refine wp1_region ?_)
        | (refine wp2_cond fun X Y hX hY => ?_)
        | (refine wp1_cond fun X Y hX hY => ?_)
        | (refine condK_of (fun c => ?_) (fun c => ?_) <;> (try simp [-List.length_eq_zero_iff] at c))
        | (refine guard1_or (fun c => ?_) (fun c => ?_) <;> (have cc := c) <;> (try simp [-List.length_eq_zero_iff] at cc) <;> (try simp (disch := omega) [t0, t1, h1, h3, h2, c]))
        | (refine callT_fl (place_c hW hw) (by simp [St.args, St.arg, t0, t1, h1, h3, h2] <;> first | rfl | ((repeat' first | rfl | apply And.intro); done)) (by first | (simp [RV.flat, RV.flats, T.flat]; done) | ((repeat' first | exact flat_intRow _ | exact trivial | constructor | unfold RV.flat | unfold RV.flats); done)) (by simp [mutsOf]) ?_)
        | (refine callT_fl (same_c _ _ ?_ ?_) (by simp [St.args, St.arg, t0, t1, h1, h3, h2] <;> first | rfl | ((repeat' first | rfl | apply And.intro); done)) (by first | (simp [RV.flat, RV.flats, T.flat]; done) | ((repeat' first | exact flat_intRow _ | exact trivial | constructor | unfold RV.flat | unfold RV.flats); done)) (by simp [mutsOf]) ?_; omega; omega)
        | (simp (disch := omega) [t0, t1, h1, h3, h2]))
      all_goals try (simp [t0, t1, h1, h3, h2, Back]; done)
      all_goals omega
  · have h3 : stI ws w = -1 := by unfold stI; rw [if_neg (fun h => h1 h.1)]
    repeat' (first
      | (refine wp2_seq fun K hK => ?_)
      | (refine wp1_seq fun K hK => ?_)
      | (refine M_cons fun K hK => ?_)
      | (refine hK _ ?_; clear hK K)
      | (clear hK K; refine hK _ ?_; clear hK K)
      | (clear hK K; clear hK K; refine hK _ ?_; clear hK K)
      | (clear hK K; clear hK K; clear hK K; refine hK _ ?_; clear hK K)
      | (refine hX _ ?_; clear hX hY X Y)
      | (refine hY _ ?_; clear hX hY X Y)
      | (refine wp2_block ?_)
      | (refine wp1_block ?_)
      | (refine wp2_region ?_)
      | (refine wp1_region ?_)
      | (refine wp2_cond fun X Y hX hY => ?_)
      | (refine wp1_cond fun X Y hX hY => ?_)
      | (refine condK_of (fun c => ?_) (fun c => ?_) <;> (try simp [-List.length_eq_zero_iff] at c))
      | (refine guard1_or (fun c => ?_) (fun c => ?_) <;> (have cc := c) <;> (try simp [-List.length_eq_zero_iff] at cc) <;> (try simp (disch := omega) [t0, t1, h1, h3, c]))
      | (refine callT_fl (place_c hW hw) (by simp [St.args, St.arg, t0, t1, h1, h3] <;> first | rfl | ((repeat' first | rfl | apply And.intro); done)) (by first | (simp [RV.flat, RV.flats, T.flat]; done) | ((repeat' first | exact flat_intRow _ | exact trivial | constructor | unfold RV.flat | unfold RV.flats); done)) (by simp [mutsOf]) ?_)
      | (refine callT_fl (same_c _ _ ?_ ?_) (by simp [St.args, St.arg, t0, t1, h1, h3] <;> first | rfl | ((repeat' first | rfl | apply And.intro); done)) (by first | (simp [RV.flat, RV.flats, T.flat]; done) | ((repeat' first | exact flat_intRow _ | exact trivial | constructor | unfold RV.flat | unfold RV.flats); done)) (by simp [mutsOf]) ?_; omega; omega)
      | (simp (disch := omega) [t0, t1, h1, h3]))
    all_goals try (simp [t0, t1, h1, h3, Back]; done)
    all_goals omega
/-- The code of spec.l3Longest. -/
def k46 : Code1 :=
  (.seq
    (.region [] false ([]) [
      ⟨some 6, Op.assign (Operand.const (Value.int IntKind.i64 0)), none⟩])
    (.seq
      (.seq
        (.region [] false ([]) [
          ⟨some 9, Op.move (Operand.tmp 2), none⟩,
          ⟨some 7, Op.assign (Operand.tmp 9), none⟩])
        (.block 0
          (.loop
            (.seq
              (.seq
                (.region [] false ([]) [
                  ⟨some 10, Op.move (Operand.tmp 7), none⟩,
                  ⟨some 11, Op.move (Operand.tmp 1), none⟩,
                  ⟨some 12, Op.call { callee := Callee.builtin Builtin.len, args := #[Operand.tmp 11], argTypes := #[22] }, none⟩,
                  ⟨some 13, Op.binOp BinOp.leq 3 (Operand.tmp 10) (Operand.tmp 12) 3, none⟩])
                (.cond (Operand.tmp 13)
                  .skip
                  (.exit 0)))
              (.seq
                (.block 1
                  (.seq
                    (.region [20] false ([]) [
                      ⟨some 16, Op.move (Operand.tmp 0), none⟩,
                      ⟨some 17, Op.move (Operand.tmp 1), none⟩,
                      ⟨some 18, Op.move (Operand.tmp 7), none⟩,
                      ⟨some 19, Op.slice 22 (Operand.tmp 17) (some (Operand.tmp 18)) none none, none⟩,
                      ⟨some 20, Op.call { callee := Callee.value (Operand.func 75), args := #[Operand.tmp 16, Operand.tmp 19], argTypes := #[68, 22] }, none⟩,
                      ⟨some 8, Op.assign (Operand.tmp 20), none⟩])
                    (.seq
                      (.region [] false ([]) [
                        ⟨some 21, Op.move (Operand.tmp 8), none⟩,
                        ⟨some 22, Op.binOp BinOp.geq 2 (Operand.tmp 21) (Operand.const (Value.int IntKind.i64 0)) 2, none⟩])
                      (.cond (Operand.tmp 22)
                        (.seq
                          (.region [] false ([]) [
                            ⟨some 23, Op.move (Operand.tmp 8), none⟩,
                            ⟨some 6, Op.assign (Operand.tmp 23), none⟩])
                          .ret)
                        .skip))))
                (.region [] false ([]) [
                  ⟨some 14, Op.move (Operand.tmp 7), none⟩,
                  ⟨some 15, Op.binOp BinOp.add 3 (Operand.tmp 14) (Operand.const (Value.int IntKind.i64 1)) 3, none⟩,
                  ⟨some 7, Op.assign (Operand.tmp 15), none⟩]))))))
      (.seq
        (.region [] false ([]) [
          ⟨some 6, Op.assign (Operand.const (Value.int IntKind.i64 (-1))), none⟩])
        .ret)))
theorem longest_c {ws : List (List Int)} {l : List Int} {k : Nat} (hW : Wds ws) (h0 : [] ∈ ws) (hl : l.length ≤ 1048576) (hk : k ≤ l.length) :
    CallsF Try.prog 46 [.val (words ws), .val (ints l), .val (.v (.int .i64 k))] (.t (.v (.int .i64 (stI ws (LS (isWord ws) (l.drop k)))))) [] := by
  refine callsF_of_wp2 (fn := Try.f46) (k := k46) (fun _ => []) mixed (by kernel_rfl) rfl (by kernel_rfl) (by kernel_rfl) (by kernel_rfl) rfl (by simp [Try.f46]) (by simp [Arg.like]) ?_
  generalize hst : St.enter [.val (words ws), .val (ints l), .val (.v (.int .i64 k))] = st0
  have t0 : st0.tm 0 = .t (words ws) := by rw [← hst]; rfl
  have t1 : st0.tm 1 = .t (ints l) := by rw [← hst]; rfl
  have t2 : st0.tm 2 = .t (.v (.int .i64 k)) := by rw [← hst]; rfl
  clear hst
  unfold k46
  repeat' (first
    | (refine wp2_seq fun K hK => ?_)
    | (refine wp1_seq fun K hK => ?_)
    | (refine M_cons fun K hK => ?_)
    | (refine hK _ ?_; clear hK K)
    | (clear hK K; refine hK _ ?_; clear hK K)
    | (clear hK K; clear hK K; refine hK _ ?_; clear hK K)
    | (clear hK K; clear hK K; clear hK K; refine hK _ ?_; clear hK K)
    | (refine hX _ ?_; clear hX hY X Y)
    | (refine hY _ ?_; clear hX hY X Y)
    | (refine wp2_block ?_)
    | (refine wp1_block ?_)
    | (refine wp2_region ?_)
    | (refine wp1_region ?_)
    | (refine wp2_cond fun X Y hX hY => ?_)
    | (refine wp1_cond fun X Y hX hY => ?_)
    | (refine condK_of (fun c => ?_) (fun c => ?_) <;> (try simp [-List.length_eq_zero_iff] at c))
    | (refine guard1_or (fun c => ?_) (fun c => ?_) <;> (have cc := c) <;> (try simp [-List.length_eq_zero_iff] at cc) <;> (try simp (disch := omega) [t0, t1, t2, c]))
    | (simp (disch := omega) [t0, t1, t2]))
  all_goals try (simp [t0, t1, t2, Back]; done)
  clear hK
  refine wp2_loop (fun n s => ∃ i : Nat, s.tm 0 = .t (words ws) ∧ s.tm 1 = .t (ints l) ∧ s.tm 7 = .t (.v (.int .i64 i)) ∧ i ≤ l.length ∧ n = l.length - i ∧ LS (isWord ws) (l.drop k) = LS (isWord ws) (l.drop i)) (l.length - k) ?_ ?_
  · exact ⟨k, by simp [t0, t1]; exact hk⟩
  · rintro n s ⟨i, s0, s1, s7, hi, rfl, hLS⟩ K' hK'
    have e1 : (l.drop i).length ≤ 1048576 := by rw [List.length_drop]; omega
    by_cases hm : l.drop i ∈ ws
    · have hs := stI_mem hW.rise hm
      rw [LS_self (isWord_iff.2 hm)] at hLS
      repeat' (first
        | (refine wp2_seq fun K hK => ?_)
        | (refine wp1_seq fun K hK => ?_)
        | (refine M_cons fun K hK => ?_)
        | (refine hK _ ?_; clear hK K)
        | (clear hK K; refine hK _ ?_; clear hK K)
        | (clear hK K; clear hK K; refine hK _ ?_; clear hK K)
        | (clear hK K; clear hK K; clear hK K; refine hK _ ?_; clear hK K)
        | (refine hX _ ?_; clear hX hY X Y)
        | (refine hY _ ?_; clear hX hY X Y)
        | (refine wp2_block ?_)
        | (refine wp1_block ?_)
        | (refine wp2_region ?_)
        | (refine wp1_region ?_)
        | (refine wp2_cond fun X Y hX hY => ?_)
        | (refine wp1_cond fun X Y hX hY => ?_)
        | (refine condK_of (fun c => ?_) (fun c => ?_) <;> (try simp [-List.length_eq_zero_iff] at c))
        | (refine guard1_or (fun c => ?_) (fun c => ?_) <;> (have cc := c) <;> (try simp [-List.length_eq_zero_iff] at cc) <;> (try simp (disch := omega) [s0, s1, s7, hLS, c]))
        | (refine callT_fl (state_c hW e1) (by simp [St.args, St.arg, s0, s1, s7, hLS] <;> first | rfl | ((repeat' first | rfl | apply And.intro); done)) (by first | (simp [RV.flat, RV.flats, T.flat]; done) | ((repeat' first | exact flat_intRow _ | exact trivial | constructor | unfold RV.flat | unfold RV.flats); done)) (by simp [mutsOf]) ?_)
        | (simp (disch := omega) [s0, s1, s7, hLS]))
      all_goals try (simp [s0, s1, s7, hLS, Back]; done)
      all_goals first | omega | (simp [Back, hLS]; done) | skip
    · have hs := stI_not hm
      have hne : i < l.length := by
        rcases Nat.lt_or_ge i l.length with h | h
        · exact h
        · rw [List.drop_of_length_le h] at hm
          exact absurd h0 hm
      have e2 : LS (isWord ws) (l.drop i) = LS (isWord ws) (l.drop (i + 1)) := by
        rw [List.drop_eq_getElem_cons hne] at hm ⊢
        rw [LS, if_neg]
        rw [isWord_iff]
        exact hm
      repeat' (first
        | (refine wp2_seq fun K hK => ?_)
        | (refine wp1_seq fun K hK => ?_)
        | (refine M_cons fun K hK => ?_)
        | (refine hK _ ?_; clear hK K)
        | (clear hK K; refine hK _ ?_; clear hK K)
        | (clear hK K; clear hK K; refine hK _ ?_; clear hK K)
        | (clear hK K; clear hK K; clear hK K; refine hK _ ?_; clear hK K)
        | (refine hX _ ?_; clear hX hY X Y)
        | (refine hY _ ?_; clear hX hY X Y)
        | (refine wp2_block ?_)
        | (refine wp1_block ?_)
        | (refine wp2_region ?_)
        | (refine wp1_region ?_)
        | (refine wp2_cond fun X Y hX hY => ?_)
        | (refine wp1_cond fun X Y hX hY => ?_)
        | (refine condK_of (fun c => ?_) (fun c => ?_) <;> (try simp [-List.length_eq_zero_iff] at c))
        | (refine guard1_or (fun c => ?_) (fun c => ?_) <;> (have cc := c) <;> (try simp [-List.length_eq_zero_iff] at cc) <;> (try simp (disch := omega) [s0, s1, s7, hs, c]))
        | (refine callT_fl (state_c hW e1) (by simp [St.args, St.arg, s0, s1, s7, hs] <;> first | rfl | ((repeat' first | rfl | apply And.intro); done)) (by first | (simp [RV.flat, RV.flats, T.flat]; done) | ((repeat' first | exact flat_intRow _ | exact trivial | constructor | unfold RV.flat | unfold RV.flats); done)) (by simp [mutsOf]) ?_)
        | (simp (disch := omega) [s0, s1, s7, hs]))
      all_goals try (simp [s0, s1, s7, hs, Back]; done)
      all_goals first
        | omega
        | (refine hK' (l.length - (i + 1)) _ (by omega) ⟨i + 1, ?_⟩
           simp [s0, s1, hLS, e2]
           omega)
end Cal

/- Plain law: the words of an automaton's states, and when it is valid. -/
set_option linter.unusedSimpArgs false
set_option linter.unusedVariables false
namespace Cal
open Auto AC
/-- The words of the first n states. -/
def wsOf (par last : List Int) : Nat → List (List Int)
  | 0 => []
  | s + 1 => wsOf par last s ++ [if s = 0 then [] else wd (wsOf par last s) (rd par s) ++ [rd last s]]
@[simp] theorem wsOf_length (par last : List Int) : ∀ n, (wsOf par last n).length = n
  | 0 => rfl
  | n + 1 => by simp [wsOf, wsOf_length par last n]
theorem wsOf_get {par last : List Int} {i : Nat} : ∀ {n : Nat}, i < n → (wsOf par last n).getD i [] = (wsOf par last (i + 1)).getD i []
  | 0, h => by omega
  | n + 1, h => by
    by_cases e : i = n
    · subst e; rfl
    · rw [← wsOf_get (n := n) (by omega)]
      show (wsOf par last n ++ _).getD i [] = _
      rw [List.getD_eq_getElem?_getD, List.getD_eq_getElem?_getD, List.getElem?_append_left (by simp; omega)]
theorem wsOf_wd {par last : List Int} {i : Int} {n m : Nat} (h0 : 0 ≤ i) (h1 : i < n) (h2 : i < m) : wd (wsOf par last n) i = wd (wsOf par last m) i := by
  unfold wd
  rw [wsOf_get (n := n) (by omega), wsOf_get (n := m) (by omega)]
/-- The word of one state. -/
def W (par last : List Int) (s : Nat) : List Int := wd (wsOf par last (s + 1)) s
theorem wsOf_W {par last : List Int} {n : Nat} {i : Int} (h0 : 0 ≤ i) (h : i < n) : wd (wsOf par last n) i = W par last i.toNat := by
  unfold W
  rw [show ((i.toNat : Nat) : Int) = i by omega]
  exact wsOf_wd h0 h (by omega)
theorem W_zero (par last : List Int) : W par last 0 = [] := by simp [W, wsOf, wd]
theorem W_pos {par last : List Int} {s : Nat} (h1 : 1 ≤ s) : W par last s = wd (wsOf par last s) (rd par s) ++ [rd last s] := by
  unfold W
  rw [wsOf, if_neg (by omega), wd]
  rw [List.getD_eq_getElem?_getD, List.getElem?_append_right (by simp)]
  simp
theorem wsOf_succ (par last : List Int) (s : Nat) : wsOf par last (s + 1) = wsOf par last s ++ [W par last s] := by
  rw [wsOf]
  by_cases h : s = 0
  · subst h; rw [W_zero]; rfl
  · rw [if_neg h, W_pos (by omega)]
/-- A state stands where it may. -/
def SOKA (par last : List Int) (s : Nat) : Prop :=
  if s = 0 then rd par 0 = -1 ∧ rd last 0 = -1 else
  0 ≤ rd par s ∧ rd par s < s ∧ 0 ≤ rd last s ∧ rd last s < 4000 ∧ (W par last s).length ≤ 402 ∧ Short.before (W par last (s - 1)) (W par last s) = true
theorem soka0 {par last : List Int} : SOKA par last 0 ↔ rd par 0 = -1 ∧ rd last 0 = -1 := by unfold SOKA; rw [if_pos rfl]
theorem soka {par last : List Int} {s : Nat} (h : 1 ≤ s) : SOKA par last s ↔ 0 ≤ rd par s ∧ rd par s < s ∧ 0 ≤ rd last s ∧ rd last s < 4000 ∧ (W par last s).length ≤ 402 ∧ Short.before (W par last (s - 1)) (W par last s) = true := by unfold SOKA; rw [if_neg (by omega)]
theorem W_word {par last : List Int} {s : Nat} (h1 : 1 ≤ s) (h0 : 0 ≤ rd par s) (h : rd par s < s) : W par last s = W par last (rd par s).toNat ++ [rd last s] := by
  rw [W_pos h1, wsOf_W h0 h]
theorem W_len {par last : List Int} {s : Nat} (h : SOKA par last s) : (W par last s).length ≤ 402 := by
  by_cases h0 : s = 0
  · subst h0; rw [W_zero]; simp
  · exact ((soka (by omega)).1 h).2.2.2.2.1
theorem rise_of {par last : List Int} : ∀ {n : Nat}, (∀ i < n, SOKA par last i) → Short.Rising (wsOf par last n)
  | 0, _ => List.Pairwise.nil
  | 1, _ => by simp [wsOf, Short.Rising]
  | n + 2, h => by
    have ih := rise_of (n := n + 1) fun i hi => h i (by omega)
    have b := ((soka (by omega)).1 (h (n + 1) (by omega))).2.2.2.2.2
    rw [wsOf_succ]
    refine List.pairwise_append.2 ⟨ih, List.pairwise_singleton _ _, fun x hx y hy => ?_⟩
    rw [List.mem_singleton] at hy
    subst hy
    rw [wsOf_succ, List.mem_append, List.mem_singleton] at hx
    rcases hx with hx | rfl
    · refine Short.before_trans ?_ b
      obtain ⟨i, hi, rfl⟩ := List.mem_iff_getElem.1 hx
      have := ih.lt (i := i) (j := n) (by simpa using hi) (by simp)
      have e1 : (wsOf par last (n + 1))[i]'(by simp at hi ⊢; omega) = (wsOf par last n)[i] := by
        simp only [wsOf_succ]
        rw [List.getElem_append_left hi]
      have e2 : (wsOf par last (n + 1))[n]'(by simp) = W par last n := by
        simp only [wsOf_succ]
        rw [List.getElem_append_right (by simp)]
        simp
      rw [e1, e2] at this
      exact this
    · exact b
theorem W_mono {par last : List Int} {n i j : Nat} (h : ∀ i < n, SOKA par last i) (hi : i < n) (hj : j < n) : (Short.before (W par last i) (W par last j) = true ↔ i < j) ∧ (W par last i = W par last j → i = j) := by
  have r := rise_of h
  have g : ∀ {k : Nat} (hk : k < n), W par last k = (wsOf par last n)[k]'(by simpa using hk) := fun {k} hk => by
    have := wsOf_W (par := par) (last := last) (n := n) (i := k) (by omega) (by omega)
    rw [Int.toNat_natCast] at this
    rw [← this, wd_nat, List.getD_eq_getElem?_getD, List.getElem?_eq_getElem (by simpa using hk)]
    rfl
  rw [g hi, g hj]
  exact ⟨r.iff _ _, fun e => r.inj (by simpa using hi) (by simpa using hj) e⟩
/-- The order, as the edges tell it. -/
theorem order_iff {par last : List Int} {s : Nat} (h : ∀ i < s, SOKA par last i) (h2 : 2 ≤ s) (p0 : 0 ≤ rd par s) (p1 : rd par s < s) :
    Short.before (W par last (s - 1)) (W par last s) = true ↔ rd par (s - 1 : Nat) < rd par s ∨ (rd par (s - 1 : Nat) = rd par s ∧ rd last (s - 1 : Nat) < rd last s) := by
  have q := (soka (by omega)).1 (h (s - 1) (by omega))
  rw [W_word (by omega) p0 p1, W_word (by omega) q.1 q.2.1, Short.before_snoc]
  have m := W_mono h (i := (rd par (s - 1 : Nat)).toNat) (j := (rd par s).toNat) (by omega) (by omega)
  rw [Bool.or_eq_true, Bool.and_eq_true, m.1, decide_eq_true_eq, decide_eq_true_eq]
  constructor
  · rintro (h | ⟨h, h'⟩)
    · exact .inl (by omega)
    · exact .inr ⟨by have := m.2 h; omega, h'⟩
  · rintro (h | ⟨h, h'⟩)
    · exact .inl (by omega)
    · exact .inr ⟨by rw [h], h'⟩
theorem wds_of {par last : List Int} {n : Nat} (hn : n ≤ 100000) (h : ∀ i < n, SOKA par last i) : Wds (wsOf par last n) := by
  refine ⟨rise_of h, by simpa using hn, fun i hi => ?_⟩
  rw [wsOf_length] at hi
  rw [← wd_nat, wsOf_W (by omega) (by omega)]
  have := W_len (h _ hi)
  rw [Int.toNat_natCast]
  omega
theorem trie_of {par last : List Int} {n : Nat} (h : ∀ i < n, SOKA par last i) (hn : 1 ≤ n) (hp : par.length = n) (hl : last.length = n) : Trie (wsOf par last n) par last := by
  have g : ∀ s : Nat, s < n → (wsOf par last n).getD s [] = W par last s := fun s hs => by
    have := wsOf_W (par := par) (last := last) (n := n) (i := s) (by omega) (by omega)
    rwa [wd_nat, Int.toNat_natCast] at this
  have q : ∀ s, 1 ≤ s → s < n → 0 ≤ rd par s ∧ rd par s < s := fun s h1 hs => by
    have := (soka h1).1 (h s hs); omega
  refine ⟨by rw [wsOf_length]; omega, by simp [hp], by simp [hl], ?_, ?_, ?_, rise_of h⟩
  · rw [List.getElem?_eq_getElem (by rw [wsOf_length]; omega)]
    have := g 0 (by omega)
    rw [List.getD_eq_getElem?_getD, List.getElem?_eq_getElem (by rw [wsOf_length]; omega), W_zero] at this
    exact congrArg some this
  · intro s h1 hs
    rw [wsOf_length] at hs
    have := q s h1 hs
    rw [← rd_getD]
    omega
  · intro s h1 hs
    rw [wsOf_length] at hs
    have := q s h1 hs
    rw [← rd_getD, ← rd_getD, g s hs, g _ (by omega), W_word h1 this.1 this.2]
theorem small_of {par last : List Int} {n : Nat} (h : ∀ i < n, SOKA par last i) (hn : 1 ≤ n) (hp : par.length = n) (h2 : n ≤ 2000) : Small par last := by
  have z := soka0.1 (h 0 (by omega))
  refine ⟨fun s h1 hs => ?_, by omega, z.1, z.2⟩
  have := (soka h1).1 (h s (by omega))
  rw [← rd_getD]
  omega
/-! the automaton -/
structure Au where
  parent : List Int
  last : List Int
  fail : List Int
  must : List Int
  bad : List Bool
/-- Failure links, one by one. -/
def FOK (a : Au) (s : Nat) : Prop := rd a.fail s = stI (wsOf a.parent a.last a.parent.length) (LS (isWord (wsOf a.parent a.last a.parent.length)) ((W a.parent a.last s).tail))
def MOK (a : Au) (s : Nat) : Prop := -2 ≤ rd a.must s ∧ rd a.must s < 4000
structure VA (a : Au) : Prop where
  n1 : 1 ≤ a.parent.length
  n2 : a.parent.length ≤ 2000
  l1 : a.last.length = a.parent.length
  l2 : a.fail.length = a.parent.length
  l3 : a.must.length = a.parent.length
  l4 : a.bad.length = a.parent.length
  f0 : rd a.fail 0 = -1
  m0 : rd a.must 0 = -1
  b0 : rdb a.bad 0 = false
  so : ∀ i < a.parent.length, SOKA a.parent a.last i
  mo : ∀ i : Nat, 1 ≤ i → i < a.parent.length → MOK a i
  fo : ∀ i : Nat, 1 ≤ i → i < a.parent.length → FOK a i
noncomputable instance (a : Au) : Decidable (VA a) := Classical.propDecidable _
/-- Links that are right, state by state, are FailsTo. -/
theorem fails_of {a : Au} (n1 : 1 ≤ a.parent.length) (l1 : a.last.length = a.parent.length) (so : ∀ i < a.parent.length, SOKA a.parent a.last i) (fo : ∀ i : Nat, 1 ≤ i → i < a.parent.length → FOK a i) : FailsTo (wsOf a.parent a.last a.parent.length) a.fail (wsOf a.parent a.last a.parent.length).length := by
  intro s h1 hs
  rw [wsOf_length] at hs
  have T := trie_of so n1 rfl l1
  have f := fo s h1 hs
  unfold FOK at f
  have gs : (wsOf a.parent a.last a.parent.length).getD s [] = W a.parent a.last s := by
    have := wsOf_W (par := a.parent) (last := a.last) (n := a.parent.length) (i := s) (by omega) (by omega)
    rwa [wd_nat, Int.toNat_natCast] at this
  have hm : LS (isWord (wsOf a.parent a.last a.parent.length)) ((W a.parent a.last s).tail) ∈ wsOf a.parent a.last a.parent.length := isWord_iff.1 (LS_p T.closed.1 _)
  have m := stI_mem T.rise hm
  rw [← f] at m
  refine ⟨(rd a.fail s).toNat, by rw [← rd_getD]; omega, ?_, ?_⟩
  · refine T.shorter (by omega) (by simpa using hs) ?_
    rw [m.2.2, gs]
    have q := LS_length (isWord (wsOf a.parent a.last a.parent.length)) ((W a.parent a.last s).tail)
    have := T.ne_nil (s := s) (by omega) (by simpa using hs)
    rw [gs] at this
    have := List.length_pos_iff.2 this
    rw [List.length_tail] at q
    omega
  · rw [m.2.2, gs]
end Cal

set_option linter.unusedSimpArgs false
set_option linter.unusedVariables false
namespace Cal
open Go Go.Proofs Auto AC
set_option maxRecDepth 100000
def appendW (o : Option Ob) (d : Nat) (id : Id) (n : Nat) (es : List (List T)) : Option (AV × Eff) := match o with
  | some (.row sz fs) => if sz = 1 ∧ n = fs.length ∧ (n + es.length) * 24 ≤ lim then some (.row (d, 0) sz 0 (n + es.length), [(id, none), ((d, 0), some (.row sz (fs ++ es)))]) else none
  | _ => none
@[simp] theorem appendA_word (d : Nat) (st : St) (id : Id) (n : Nat) (es : List (List T)) : appendA d st ⟨true, 1, 24, [.slice none 0 0]⟩ (.row id 1 0 n) es = appendW (st.ob id) d id n es := by
  unfold appendA appendW
  rfl
@[simp] theorem appendW_word (d : Nat) (id : Id) (ws : List (List Int)) (w : List Int) (n : Nat) (h1 : n = ws.length) (h2 : n ≤ 1000000) : appendW (some (.row 1 (wordRow ws))) d id n [[ints w]] = some (.row (d, 0) 1 0 (n + 1), [(id, none), ((d, 0), some (.row 1 (wordRow (ws ++ [w]))))]) := by
  subst h1
  have : (ws.length + 1) * 24 ≤ lim := by unfold lim; omega
  simp [appendW, this]
@[simp] theorem appendW_word0 (d : Nat) (id : Id) (ws : List (List Int)) (n : Nat) (h1 : n = ws.length) (h2 : n ≤ 1000000) : appendW (some (.row 1 (wordRow ws))) d id n [[T.sl []]] = some (.row (d, 0) 1 0 (n + 1), [(id, none), ((d, 0), some (.row 1 (wordRow (ws ++ [[]]))))]) := appendW_word d id ws [] n h1 h2
@[simp] theorem wordRow_snoc0 (l : List (List Int)) : wordRow l ++ [[T.sl []]] = wordRow (l ++ [[]]) := wordRow_append l [[]]
@[simp] theorem take_one (x : Int) : (intRow [x]).take 1 = intRow [x] := rfl
theorem plus1_c (a : List Int) (x : Int) (ha : a.length ≤ 1048575) : CallsF Try.prog 73 [.val (ints a), .val (ints [x])] (.own 1 (intRow (a ++ [x]))) [] := plus_c a [x] (by omega) (by simp)
def encAu (a : Au) : List T := [ints a.parent, ints a.last, ints a.fail, ints a.must, bools a.bad]
def objAu (a : Au) : Option Ob := some (.var [.t (ints a.parent), .t (ints a.last), .t (ints a.fail), .t (ints a.must), .t (bools a.bad)])
/-- The code of spec.l3Spell. -/
def k45 : Code1 :=
  (.seq
    (.region [1] false ([]) [
      ⟨some 1, Op.box 36 (Operand.tmp 0), none⟩,
      ⟨some 2, Op.assign (Operand.const (Value.slice none 0 0)), none⟩])
    (.seq
      (.region [6] false ([]) [
        ⟨some 6, Op.buildSlice 68 0 #[], none⟩,
        ⟨some 3, Op.assign (Operand.tmp 6), none⟩])
      (.seq
        (.seq
          (.region [] false ([]) [
            ⟨some 4, Op.assign (Operand.const (Value.int IntKind.i64 0)), none⟩])
          (.block 0
            (.loop
              (.seq
                (.seq
                  (.region [] false ([]) [
                    ⟨some 7, Op.move (Operand.tmp 4), none⟩,
                    ⟨some 8, Op.fieldAddr 36 (Operand.tmp 1) 0, none⟩,
                    ⟨some 9, Op.load 22 (Operand.tmp 8), none⟩,
                    ⟨some 10, Op.call { callee := Callee.builtin Builtin.len, args := #[Operand.tmp 9], argTypes := #[22] }, none⟩,
                    ⟨some 11, Op.binOp BinOp.lss 3 (Operand.tmp 7) (Operand.tmp 10) 3, none⟩])
                  (.cond (Operand.tmp 11)
                    .skip
                    (.exit 0)))
                (.seq
                  (.block 1
                    (.seq
                      (.seq
                        (.region [] false ([]) [
                          ⟨some 14, Op.move (Operand.tmp 4), none⟩,
                          ⟨some 15, Op.binOp BinOp.eql 3 (Operand.tmp 14) (Operand.const (Value.int IntKind.i64 0)) 3, none⟩])
                        (.cond (Operand.tmp 15)
                          (.seq
                            (.seq
                              (.region [] false ([]) [
                                ⟨some 16, Op.fieldAddr 36 (Operand.tmp 1) 0, none⟩,
                                ⟨some 17, Op.load 22 (Operand.tmp 16), none⟩,
                                ⟨some 18, Op.indexAddr 22 (Operand.tmp 17) (Operand.const (Value.int IntKind.i64 0)), none⟩,
                                ⟨some 19, Op.load 2 (Operand.tmp 18), none⟩,
                                ⟨some 20, Op.binOp BinOp.neq 2 (Operand.tmp 19) (Operand.const (Value.int IntKind.i64 (-1))) 2, none⟩,
                                ⟨some 21, Op.move (Operand.tmp 20), none⟩,
                                ⟨some 22, Op.fieldAddr 36 (Operand.tmp 1) 1, some (21, false)⟩,
                                ⟨some 23, Op.load 22 (Operand.tmp 22), some (21, false)⟩,
                                ⟨some 24, Op.indexAddr 22 (Operand.tmp 23) (Operand.const (Value.int IntKind.i64 0)), some (21, false)⟩,
                                ⟨some 25, Op.load 2 (Operand.tmp 24), some (21, false)⟩,
                                ⟨some 26, Op.binOp BinOp.neq 2 (Operand.tmp 25) (Operand.const (Value.int IntKind.i64 (-1))) 2, some (21, false)⟩,
                                ⟨some 27, Op.pick (Operand.tmp 21) (Operand.const (Value.bool true)) (Operand.tmp 26), none⟩])
                              (.cond (Operand.tmp 27)
                                (.seq
                                  (.region [] false ([]) [
                                    ⟨some 28, Op.move (Operand.tmp 3), none⟩,
                                    ⟨some 2, Op.assign (Operand.tmp 28), none⟩])
                                  .ret)
                                .skip))
                            (.seq
                              (.region [30, 32, 33] false ([]) [
                                ⟨some 29, Op.move (Operand.tmp 3), none⟩,
                                ⟨some 30, Op.buildSlice 22 0 #[], none⟩,
                                ⟨some 31, Op.build 72 #[(0, Operand.tmp 30)], none⟩,
                                ⟨some 32, Op.buildSlice 68 1 #[(0, Operand.tmp 31)], none⟩,
                                ⟨some 33, Op.call { callee := Callee.builtin Builtin.append, args := #[Operand.tmp 29, Operand.tmp 32], argTypes := #[68, 68] }, none⟩,
                                ⟨some 3, Op.assign (Operand.tmp 33), none⟩])
                              (.exit 1)))
                          .skip))
                      (.seq
                        (.seq
                          (.region [] false ([]) [
                            ⟨some 34, Op.fieldAddr 36 (Operand.tmp 1) 0, none⟩,
                            ⟨some 35, Op.load 22 (Operand.tmp 34), none⟩,
                            ⟨some 36, Op.move (Operand.tmp 4), none⟩,
                            ⟨some 37, Op.indexAddr 22 (Operand.tmp 35) (Operand.tmp 36), none⟩,
                            ⟨some 38, Op.load 2 (Operand.tmp 37), none⟩,
                            ⟨some 39, Op.binOp BinOp.lss 2 (Operand.tmp 38) (Operand.const (Value.int IntKind.i64 0)) 2, none⟩,
                            ⟨some 40, Op.move (Operand.tmp 39), none⟩,
                            ⟨some 41, Op.fieldAddr 36 (Operand.tmp 1) 0, some (40, false)⟩,
                            ⟨some 42, Op.load 22 (Operand.tmp 41), some (40, false)⟩,
                            ⟨some 43, Op.move (Operand.tmp 4), some (40, false)⟩,
                            ⟨some 44, Op.indexAddr 22 (Operand.tmp 42) (Operand.tmp 43), some (40, false)⟩,
                            ⟨some 45, Op.load 2 (Operand.tmp 44), some (40, false)⟩,
                            ⟨some 46, Op.move (Operand.tmp 4), some (40, false)⟩,
                            ⟨some 47, Op.binOp BinOp.geq 2 (Operand.tmp 45) (Operand.tmp 46) 2, some (40, false)⟩,
                            ⟨some 48, Op.pick (Operand.tmp 40) (Operand.const (Value.bool true)) (Operand.tmp 47), none⟩,
                            ⟨some 49, Op.move (Operand.tmp 48), none⟩,
                            ⟨some 50, Op.fieldAddr 36 (Operand.tmp 1) 1, some (49, false)⟩,
                            ⟨some 51, Op.load 22 (Operand.tmp 50), some (49, false)⟩,
                            ⟨some 52, Op.move (Operand.tmp 4), some (49, false)⟩,
                            ⟨some 53, Op.indexAddr 22 (Operand.tmp 51) (Operand.tmp 52), some (49, false)⟩,
                            ⟨some 54, Op.load 2 (Operand.tmp 53), some (49, false)⟩,
                            ⟨some 55, Op.binOp BinOp.lss 2 (Operand.tmp 54) (Operand.const (Value.int IntKind.i64 0)) 2, some (49, false)⟩,
                            ⟨some 56, Op.pick (Operand.tmp 49) (Operand.const (Value.bool true)) (Operand.tmp 55), none⟩,
                            ⟨some 57, Op.move (Operand.tmp 56), none⟩,
                            ⟨some 58, Op.fieldAddr 36 (Operand.tmp 1) 1, some (57, false)⟩,
                            ⟨some 59, Op.load 22 (Operand.tmp 58), some (57, false)⟩,
                            ⟨some 60, Op.move (Operand.tmp 4), some (57, false)⟩,
                            ⟨some 61, Op.indexAddr 22 (Operand.tmp 59) (Operand.tmp 60), some (57, false)⟩,
                            ⟨some 62, Op.load 2 (Operand.tmp 61), some (57, false)⟩,
                            ⟨some 63, Op.binOp BinOp.geq 2 (Operand.tmp 62) (Operand.const (Value.int IntKind.i64 4000)) 2, some (57, false)⟩,
                            ⟨some 64, Op.pick (Operand.tmp 57) (Operand.const (Value.bool true)) (Operand.tmp 63), none⟩])
                          (.cond (Operand.tmp 64)
                            (.seq
                              (.region [] false ([]) [
                                ⟨some 65, Op.move (Operand.tmp 3), none⟩,
                                ⟨some 2, Op.assign (Operand.tmp 65), none⟩])
                              .ret)
                            .skip))
                        (.seq
                          (.region [80, 81] true ([]) [
                            ⟨some 66, Op.move (Operand.tmp 3), none⟩,
                            ⟨some 67, Op.fieldAddr 36 (Operand.tmp 1) 0, none⟩,
                            ⟨some 68, Op.load 22 (Operand.tmp 67), none⟩,
                            ⟨some 69, Op.move (Operand.tmp 4), none⟩,
                            ⟨some 70, Op.indexAddr 22 (Operand.tmp 68) (Operand.tmp 69), none⟩,
                            ⟨some 71, Op.load 2 (Operand.tmp 70), none⟩,
                            ⟨some 72, Op.indexAddr 68 (Operand.tmp 66) (Operand.tmp 71), none⟩,
                            ⟨some 73, Op.fieldAddr 72 (Operand.tmp 72) 0, none⟩,
                            ⟨some 74, Op.load 22 (Operand.tmp 73), none⟩,
                            ⟨some 75, Op.fieldAddr 36 (Operand.tmp 1) 1, none⟩,
                            ⟨some 76, Op.load 22 (Operand.tmp 75), none⟩,
                            ⟨some 77, Op.move (Operand.tmp 4), none⟩,
                            ⟨some 78, Op.indexAddr 22 (Operand.tmp 76) (Operand.tmp 77), none⟩,
                            ⟨some 79, Op.load 2 (Operand.tmp 78), none⟩,
                            ⟨some 80, Op.buildSlice 22 1 #[(0, Operand.tmp 79)], none⟩,
                            ⟨some 81, Op.call { callee := Callee.value (Operand.func 73), args := #[Operand.tmp 74, Operand.tmp 80], argTypes := #[22, 22] }, none⟩,
                            ⟨some 5, Op.assign (Operand.tmp 81), none⟩])
                          (.seq
                            (.seq
                              (.region [93] false ([]) [
                                ⟨some 82, Op.move (Operand.tmp 5), none⟩,
                                ⟨some 83, Op.call { callee := Callee.builtin Builtin.len, args := #[Operand.tmp 82], argTypes := #[22] }, none⟩,
                                ⟨some 84, Op.binOp BinOp.gtr 3 (Operand.tmp 83) (Operand.const (Value.int IntKind.i64 402)) 3, none⟩,
                                ⟨some 85, Op.move (Operand.tmp 84), none⟩,
                                ⟨some 86, Op.move (Operand.tmp 3), some (85, false)⟩,
                                ⟨some 87, Op.move (Operand.tmp 4), some (85, false)⟩,
                                ⟨some 88, Op.binOp BinOp.sub 3 (Operand.tmp 87) (Operand.const (Value.int IntKind.i64 1)) 3, some (85, false)⟩,
                                ⟨some 89, Op.indexAddr 68 (Operand.tmp 86) (Operand.tmp 88), some (85, false)⟩,
                                ⟨some 90, Op.fieldAddr 72 (Operand.tmp 89) 0, some (85, false)⟩,
                                ⟨some 91, Op.load 22 (Operand.tmp 90), some (85, false)⟩,
                                ⟨some 92, Op.move (Operand.tmp 5), some (85, false)⟩,
                                ⟨some 93, Op.call { callee := Callee.value (Operand.func 74), args := #[Operand.tmp 91, Operand.tmp 92], argTypes := #[22, 22] }, some (85, false)⟩,
                                ⟨some 94, Op.unOp UnOp.not 4 (Operand.tmp 93), some (85, false)⟩,
                                ⟨some 95, Op.pick (Operand.tmp 85) (Operand.const (Value.bool true)) (Operand.tmp 94), none⟩])
                              (.cond (Operand.tmp 95)
                                (.seq
                                  (.region [] false ([]) [
                                    ⟨some 96, Op.move (Operand.tmp 3), none⟩,
                                    ⟨some 2, Op.assign (Operand.tmp 96), none⟩])
                                  .ret)
                                .skip))
                            (.region [100, 101] false ([]) [
                              ⟨some 97, Op.move (Operand.tmp 3), none⟩,
                              ⟨some 98, Op.move (Operand.tmp 5), none⟩,
                              ⟨some 99, Op.build 72 #[(0, Operand.tmp 98)], none⟩,
                              ⟨some 100, Op.buildSlice 68 1 #[(0, Operand.tmp 99)], none⟩,
                              ⟨some 101, Op.call { callee := Callee.builtin Builtin.append, args := #[Operand.tmp 97, Operand.tmp 100], argTypes := #[68, 68] }, none⟩,
                              ⟨some 3, Op.assign (Operand.tmp 101), none⟩]))))))
                  (.region [] false ([]) [
                    ⟨some 12, Op.move (Operand.tmp 4), none⟩,
                    ⟨some 13, Op.binOp BinOp.add 3 (Operand.tmp 12) (Operand.const (Value.int IntKind.i64 1)) 3, none⟩,
                    ⟨some 4, Op.assign (Operand.tmp 13), none⟩]))))))
        (.seq
          (.region [] false ([]) [
            ⟨some 102, Op.move (Operand.tmp 3), none⟩,
            ⟨some 2, Op.assign (Operand.tmp 102), none⟩])
          .ret))))
set_option maxHeartbeats 2000000 in
theorem spell_c (a : Au) {k : Nat} (hn : a.parent.length ≤ 2000) (hl : a.last.length = a.parent.length) (hk : k ≤ a.parent.length) (h : ∀ i < k, SOKA a.parent a.last i) (hno : k < a.parent.length → ¬ SOKA a.parent a.last k) :
    CallsF Try.prog 45 [.agg (encAu a)] (.own 1 (wordRow (wsOf a.parent a.last k))) [] := by
  refine callsF_of_wp2 (fn := Try.f45) (k := k45) (fun _ => []) mixed (by kernel_rfl) rfl (by kernel_rfl) (by kernel_rfl) (by kernel_rfl) rfl (by simp [Try.f45]) (by simp [Arg.like]) ?_
  generalize hst : St.enter [.agg (encAu a)] = st0
  have t0 : st0.tm 0 = .agg ((encAu a) |>.map .t) := by rw [← hst]; rfl
  clear hst
  unfold k45
  simp [encAu] at t0
  repeat' (first
    | (refine wp2_seq fun K hK => ?_)
    | (refine wp1_seq fun K hK => ?_)
    | (refine M_cons fun K hK => ?_)
    | (refine hK _ ?_; clear hK K)
    | (clear hK K; refine hK _ ?_; clear hK K)
    | (clear hK K; clear hK K; refine hK _ ?_; clear hK K)
    | (clear hK K; clear hK K; clear hK K; refine hK _ ?_; clear hK K)
    | (refine hX _ ?_; clear hX hY X Y)
    | (refine hY _ ?_; clear hX hY X Y)
    | (refine wp2_block ?_)
    | (refine wp1_block ?_)
    | (refine wp2_region ?_)
    | (refine wp1_region ?_)
    | (refine wp2_cond fun X Y hX hY => ?_)
    | (refine wp1_cond fun X Y hX hY => ?_)
    | (refine condK_of (fun c => ?_) (fun c => ?_) <;> (try simp [-List.length_eq_zero_iff] at c))
    | (refine guard1_or (fun c => ?_) (fun c => ?_) <;> (have cc := c) <;> (try simp [-List.length_eq_zero_iff] at cc) <;> (try simp (disch := omega) [t0, c]))
    | (simp (disch := omega) [t0]))
  all_goals try (simp [t0, Back]; done)
  have hJ : ∀ s, s.tm 3 = .row (6, 0) 1 0 k → s.ob (6, 0) = some (.row 1 (wordRow (wsOf a.parent a.last k))) → K s := by
    intro s s3 o
    repeat' (first
      | (refine wp2_seq fun K hK => ?_)
      | (refine wp1_seq fun K hK => ?_)
      | (refine M_cons fun K hK => ?_)
      | (refine hK _ ?_; clear hK K)
      | (clear hK K; refine hK _ ?_; clear hK K)
      | (clear hK K; clear hK K; refine hK _ ?_; clear hK K)
      | (clear hK K; clear hK K; clear hK K; refine hK _ ?_; clear hK K)
      | (refine hX _ ?_; clear hX hY X Y)
      | (refine hY _ ?_; clear hX hY X Y)
      | (refine wp2_block ?_)
      | (refine wp1_block ?_)
      | (refine wp2_region ?_)
      | (refine wp1_region ?_)
      | (refine wp2_cond fun X Y hX hY => ?_)
      | (refine wp1_cond fun X Y hX hY => ?_)
      | (refine condK_of (fun c => ?_) (fun c => ?_) <;> (try simp [-List.length_eq_zero_iff] at c))
      | (refine guard1_or (fun c => ?_) (fun c => ?_) <;> (have cc := c) <;> (try simp [-List.length_eq_zero_iff] at cc) <;> (try simp (disch := omega) [s3, o, c]))
      | (simp (disch := omega) [s3, o]))
    all_goals try (simp [s3, o, Back]; done)
  clear hK
  refine wp2_loop (fun n s => ∃ j : Nat, s.tm 1 = .ptr (1, 0) 0 0 ∧ s.ob (1, 0) = objAu a ∧ s.tm 3 = .row (6, 0) 1 0 j ∧ s.ob (6, 0) = some (.row 1 (wordRow (wsOf a.parent a.last j))) ∧ s.tm 4 = .t (.v (.int .i64 j)) ∧ j ≤ k ∧ n = k - j) k ?_ ?_
  · refine ⟨0, ?_⟩
    simp [t0, objAu, wsOf, wordRow]
  · rintro n s ⟨j, s1, o1, s3, o, s4, hj, rfl⟩ K' hK'
    simp only [objAu] at o1
    have fin : (wsOf a.parent a.last j).length = j := wsOf_length _ _ _
    have sx := wsOf_succ a.parent a.last j
    have sx2 : wordRow (wsOf a.parent a.last j ++ [W a.parent a.last j]) = wordRow (wsOf a.parent a.last (j + 1)) := by rw [← sx]
    by_cases hjn : j < a.parent.length
    · by_cases h0 : j = 0
      · subst h0
        have so : SOKA a.parent a.last 0 ↔ _ := soka0
        rw [W_zero] at sx
        by_cases hk0 : 0 < k
        · have z := so.1 (h 0 hk0)
          obtain ⟨z1, z2⟩ := z
          repeat' (first
            | (refine wp2_seq fun K hK => ?_)
            | (refine wp1_seq fun K hK => ?_)
            | (refine M_cons fun K hK => ?_)
            | (refine hK _ ?_; clear hK K)
            | (clear hK K; refine hK _ ?_; clear hK K)
            | (clear hK K; clear hK K; refine hK _ ?_; clear hK K)
            | (clear hK K; clear hK K; clear hK K; refine hK _ ?_; clear hK K)
            | (refine hX _ ?_; clear hX hY X Y)
            | (refine hY _ ?_; clear hX hY X Y)
            | (refine wp2_block ?_)
            | (refine wp1_block ?_)
            | (refine wp2_canon (ops := ⟨some 12, _, _⟩ :: _) [(3, 6)] ?_)
            | (refine wp2_region ?_)
            | (refine wp1_region ?_)
            | (refine wp2_cond fun X Y hX hY => ?_)
            | (refine wp1_cond fun X Y hX hY => ?_)
            | (refine condK_of (fun c => ?_) (fun c => ?_) <;> (try simp [-List.length_eq_zero_iff] at c))
            | (refine guard1_or (fun c => ?_) (fun c => ?_) <;> (have cc := c) <;> (try simp [-List.length_eq_zero_iff] at cc) <;> (try simp (disch := omega) [s1, o1, s3, o, s4, c]))
            | (simp (disch := omega) [s1, o1, s3, o, s4]))
          all_goals try (simp [s1, o1, s3, o, s4, Back]; done)
          all_goals first
            | omega
            | (refine hK' (k - 1) _ (by omega) ⟨1, ?_⟩
               simp [s1, o1, objAu, s3, sx, show IntKind.i64.wrap 1 = 1 from rfl]
               omega)
        · have : k = 0 := by omega
          subst this
          have z := fun e => hno hjn (so.2 e)
          repeat' (first
            | (refine wp2_seq fun K hK => ?_)
            | (refine wp1_seq fun K hK => ?_)
            | (refine M_cons fun K hK => ?_)
            | (refine hK _ ?_; clear hK K)
            | (clear hK K; refine hK _ ?_; clear hK K)
            | (clear hK K; clear hK K; refine hK _ ?_; clear hK K)
            | (clear hK K; clear hK K; clear hK K; refine hK _ ?_; clear hK K)
            | (refine hX _ ?_; clear hX hY X Y)
            | (refine hY _ ?_; clear hX hY X Y)
            | (refine wp2_block ?_)
            | (refine wp1_block ?_)
            | (refine wp2_canon (ops := ⟨some 12, _, _⟩ :: _) [(3, 6)] ?_)
            | (refine wp2_region ?_)
            | (refine wp1_region ?_)
            | (refine wp2_cond fun X Y hX hY => ?_)
            | (refine wp1_cond fun X Y hX hY => ?_)
            | (refine condK_of (fun c => ?_) (fun c => ?_) <;> (try simp [-List.length_eq_zero_iff] at c))
            | (refine guard1_or (fun c => ?_) (fun c => ?_) <;> (have cc := c) <;> (try simp [-List.length_eq_zero_iff] at cc) <;> (try simp (disch := omega) [s1, o1, s3, o, s4, c]))
            | (simp (disch := omega) [s1, o1, s3, o, s4]))
          all_goals try (simp [s1, o1, s3, o, s4, Back]; done)
          all_goals first
            | omega
            | (simp [Back, s3, o]; done)
            | (exfalso; simp at *; omega)
      · have so : SOKA a.parent a.last j ↔ _ := soka (by omega)
        have wp := W_pos (par := a.parent) (last := a.last) (s := j) (by omega)
        have e2 : wd (wsOf a.parent a.last j) ((j - 1 : Nat) : Int) = W a.parent a.last (j - 1) := by
          rw [wsOf_W (by omega) (by omega)]
          rfl
        by_cases hjk : j < k
        · have z := so.1 (h j hjk)
          obtain ⟨z1, z2, z3, z4, z5, z6⟩ := z
          have l2 := W_len (h (j - 1) (by omega))
          have l3 : (wd (wsOf a.parent a.last j) (rd a.parent j)).length ≤ 402 := by rw [wp] at z5; rw [List.length_append] at z5; omega
          have e3 : wd (wsOf a.parent a.last j) (max (rd a.parent j) 0) = wd (wsOf a.parent a.last j) (rd a.parent j) := by rw [show max (rd a.parent j) 0 = rd a.parent j by omega]
          repeat' (first
            | (refine wp2_seq fun K hK => ?_)
            | (refine wp1_seq fun K hK => ?_)
            | (refine M_cons fun K hK => ?_)
            | (refine hK _ ?_; clear hK K)
            | (clear hK K; refine hK _ ?_; clear hK K)
            | (clear hK K; clear hK K; refine hK _ ?_; clear hK K)
            | (clear hK K; clear hK K; clear hK K; refine hK _ ?_; clear hK K)
            | (refine hX _ ?_; clear hX hY X Y)
            | (refine hY _ ?_; clear hX hY X Y)
            | (refine wp2_block ?_)
            | (refine wp1_block ?_)
            | (refine wp2_canon (ops := ⟨some 12, _, _⟩ :: _) [(3, 6)] ?_)
            | (refine wp2_region ?_)
            | (refine wp1_region ?_)
            | (refine wp2_cond fun X Y hX hY => ?_)
            | (refine wp1_cond fun X Y hX hY => ?_)
            | (refine condK_of (fun c => ?_) (fun c => ?_) <;> (try simp [-List.length_eq_zero_iff] at c))
            | (refine guard1_or (fun c => ?_) (fun c => ?_) <;> (have cc := c) <;> (try simp [-List.length_eq_zero_iff] at cc) <;> (try simp (disch := omega) [s1, o1, s3, o, s4, e3, ← wp, e2, z6, sx2, c]))
            | (refine callT_fl (plus1_c _ _ ?_) (by simp [St.args, St.arg, s1, o1, s3, o, s4, e3, ← wp, e2, z6, sx2] <;> first | rfl | ((repeat' first | rfl | apply And.intro); done)) (by first | (simp [RV.flat, RV.flats, T.flat]; done) | ((repeat' first | exact flat_intRow _ | exact flat_boolRow _ | exact trivial | constructor | unfold RV.flat | unfold RV.flats); done)) (by simp [mutsOf]) ?_; omega)
            | (refine callT_fl (before_c _ _ ?_ ?_) (by simp [St.args, St.arg, s1, o1, s3, o, s4, e3, ← wp, e2, z6, sx2] <;> first | rfl | ((repeat' first | rfl | apply And.intro); done)) (by first | (simp [RV.flat, RV.flats, T.flat]; done) | ((repeat' first | exact flat_intRow _ | exact flat_boolRow _ | exact trivial | constructor | unfold RV.flat | unfold RV.flats); done)) (by simp [mutsOf]) ?_; omega; omega)
            | (simp (disch := omega) [s1, o1, s3, o, s4, e3, ← wp, e2, z6, sx2]))
          all_goals try (simp [s1, o1, s3, o, s4, e3, ← wp, e2, z6, sx2, Back]; done)
          all_goals first
            | omega
            | (exfalso; simp only [decide_eq_true_eq, decide_eq_false_iff_not] at *; omega)
            | (refine hK' (k - (j + 1)) _ (by omega) ⟨j + 1, ?_⟩
               simp (disch := omega) [s1, o1, objAu, s3, sx]
               omega)
            | skip
        · have : j = k := by omega
          subst this
          have z := fun e => hno hjn (so.2 e)
          have l2 := W_len (h (j - 1) (by omega))
          have l3 : 0 ≤ rd a.parent j → rd a.parent j < j → (wd (wsOf a.parent a.last j) (rd a.parent j)).length ≤ 402 := fun h0 h1 => by rw [wsOf_W h0 h1]; exact W_len (h _ (by omega))
          have e3 : 0 ≤ rd a.parent j → wd (wsOf a.parent a.last j) (max (rd a.parent j) 0) = wd (wsOf a.parent a.last j) (rd a.parent j) := fun h => by rw [show max (rd a.parent j) 0 = rd a.parent j by omega]
          repeat' (first
            | (refine wp2_seq fun K hK => ?_)
            | (refine wp1_seq fun K hK => ?_)
            | (refine M_cons fun K hK => ?_)
            | (refine hK _ ?_; clear hK K)
            | (clear hK K; refine hK _ ?_; clear hK K)
            | (clear hK K; clear hK K; refine hK _ ?_; clear hK K)
            | (clear hK K; clear hK K; clear hK K; refine hK _ ?_; clear hK K)
            | (refine hX _ ?_; clear hX hY X Y)
            | (refine hY _ ?_; clear hX hY X Y)
            | (refine wp2_block ?_)
            | (refine wp1_block ?_)
            | (refine wp2_canon (ops := ⟨some 12, _, _⟩ :: _) [(3, 6)] ?_)
            | (refine wp2_region ?_)
            | (refine wp1_region ?_)
            | (refine wp2_cond fun X Y hX hY => ?_)
            | (refine wp1_cond fun X Y hX hY => ?_)
            | (refine condK_of (fun c => ?_) (fun c => ?_) <;> (try simp [-List.length_eq_zero_iff] at c))
            | (refine guard1_or (fun c => ?_) (fun c => ?_) <;> (have cc := c) <;> (try simp [-List.length_eq_zero_iff] at cc) <;> (try simp (disch := omega) [s1, o1, s3, o, s4, e3, ← wp, e2, c]))
            | (refine callT_fl (plus1_c _ _ ?_) (by simp [St.args, St.arg, s1, o1, s3, o, s4, e3, ← wp, e2] <;> first | rfl | ((repeat' first | rfl | apply And.intro); done)) (by first | (simp [RV.flat, RV.flats, T.flat]; done) | ((repeat' first | exact flat_intRow _ | exact flat_boolRow _ | exact trivial | constructor | unfold RV.flat | unfold RV.flats); done)) (by simp [mutsOf]) ?_; omega)
            | (refine callT_fl (before_c _ _ ?_ ?_) (by simp [St.args, St.arg, s1, o1, s3, o, s4, e3, ← wp, e2] <;> first | rfl | ((repeat' first | rfl | apply And.intro); done)) (by first | (simp [RV.flat, RV.flats, T.flat]; done) | ((repeat' first | exact flat_intRow _ | exact flat_boolRow _ | exact trivial | constructor | unfold RV.flat | unfold RV.flats); done)) (by simp [mutsOf]) ?_; omega; omega)
            | (simp (disch := omega) [s1, o1, s3, o, s4, e3, ← wp, e2]))
          all_goals try (simp [s1, o1, s3, o, s4, e3, ← wp, e2, Back]; done)
          all_goals first
            | omega
            | (simp [Back, s3, o]; done)
            | (exfalso
               simp only [decide_eq_true_eq, decide_eq_false_iff_not] at *
               refine z ⟨by omega, by omega, by omega, by omega, by omega, ?_⟩
               assumption)
            | skip
    · have : j = k := by omega
      subst this
      repeat' (first
        | (refine wp2_seq fun K hK => ?_)
        | (refine wp1_seq fun K hK => ?_)
        | (refine M_cons fun K hK => ?_)
        | (refine hK _ ?_; clear hK K)
        | (clear hK K; refine hK _ ?_; clear hK K)
        | (clear hK K; clear hK K; refine hK _ ?_; clear hK K)
        | (clear hK K; clear hK K; clear hK K; refine hK _ ?_; clear hK K)
        | (refine hX _ ?_; clear hX hY X Y)
        | (refine hY _ ?_; clear hX hY X Y)
        | (refine wp2_block ?_)
        | (refine wp1_block ?_)
        | (refine wp2_region ?_)
        | (refine wp1_region ?_)
        | (refine wp2_cond fun X Y hX hY => ?_)
        | (refine wp1_cond fun X Y hX hY => ?_)
        | (refine condK_of (fun c => ?_) (fun c => ?_) <;> (try simp [-List.length_eq_zero_iff] at c))
        | (refine guard1_or (fun c => ?_) (fun c => ?_) <;> (have cc := c) <;> (try simp [-List.length_eq_zero_iff] at cc) <;> (try simp (disch := omega) [s1, o1, s3, o, s4, c]))
        | (simp (disch := omega) [s1, o1, s3, o, s4]))
      all_goals try (simp [s1, o1, s3, o, s4, Back]; done)
      all_goals first
        | omega
        | exact hJ _ (by simp [s3]) (by simp [o])
end Cal

set_option linter.unusedSimpArgs false
set_option linter.unusedVariables false
namespace Cal
open Go Go.Proofs Auto AC
set_option maxRecDepth 100000
theorem first_bad (p : Nat → Prop) (n : Nat) : ∃ k, k ≤ n ∧ (∀ i < k, p i) ∧ (k < n → ¬ p k) := by
  induction n with
  | zero => exact ⟨0, Nat.le_refl _, fun i hi => absurd hi (by omega), fun h => absurd h (by omega)⟩
  | succ n ih =>
    obtain ⟨k, h1, h2, h3⟩ := ih
    by_cases hk : k = n
    · subst hk
      by_cases hp : p k
      · exact ⟨k + 1, Nat.le_refl _, fun i hi => by
          rcases Nat.lt_or_eq_of_le (Nat.le_of_lt_succ hi) with h | rfl
          · exact h2 i h
          · exact hp, fun h => absurd h (by omega)⟩
      · exact ⟨k, by omega, h2, fun _ => hp⟩
    · exact ⟨k, by omega, h2, fun _ => h3 (by omega)⟩
theorem longest1_c {ws : List (List Int)} {l : List Int} (hW : Wds ws) (h0 : [] ∈ ws) (hl : l.length ≤ 1048576) (hk : 1 ≤ l.length) :
    CallsF Try.prog 46 [.val (words ws), .val (ints l), .val (.v (.int .i64 1))] (.t (.v (.int .i64 (stI ws (LS (isWord ws) l.tail))))) [] := by
  have := longest_c (k := 1) hW h0 hl hk
  rw [List.drop_one] at this
  exact this
@[simp] theorem words_sl (ws : List (List Int)) : T.sl (wordRow ws) = words ws := rfl
/-- The code of spec.ValidAuto. -/
def k17 : Code1 :=
  (.seq
    (.region [1] false ([]) [
      ⟨some 1, Op.box 36 (Operand.tmp 0), none⟩,
      ⟨some 2, Op.assign (Operand.const (Value.bool false)), none⟩])
    (.seq
      (.region [] false ([]) [
        ⟨some 6, Op.fieldAddr 36 (Operand.tmp 1) 0, none⟩,
        ⟨some 7, Op.load 22 (Operand.tmp 6), none⟩,
        ⟨some 8, Op.call { callee := Callee.builtin Builtin.len, args := #[Operand.tmp 7], argTypes := #[22] }, none⟩,
        ⟨some 3, Op.assign (Operand.tmp 8), none⟩])
      (.seq
        (.seq
          (.region [] false ([]) [
            ⟨some 9, Op.move (Operand.tmp 3), none⟩,
            ⟨some 10, Op.binOp BinOp.lss 3 (Operand.tmp 9) (Operand.const (Value.int IntKind.i64 1)) 3, none⟩,
            ⟨some 11, Op.move (Operand.tmp 10), none⟩,
            ⟨some 12, Op.move (Operand.tmp 3), some (11, false)⟩,
            ⟨some 13, Op.binOp BinOp.gtr 3 (Operand.tmp 12) (Operand.const (Value.int IntKind.i64 2000)) 3, some (11, false)⟩,
            ⟨some 14, Op.pick (Operand.tmp 11) (Operand.const (Value.bool true)) (Operand.tmp 13), none⟩,
            ⟨some 15, Op.move (Operand.tmp 14), none⟩,
            ⟨some 16, Op.fieldAddr 36 (Operand.tmp 1) 1, some (15, false)⟩,
            ⟨some 17, Op.load 22 (Operand.tmp 16), some (15, false)⟩,
            ⟨some 18, Op.call { callee := Callee.builtin Builtin.len, args := #[Operand.tmp 17], argTypes := #[22] }, some (15, false)⟩,
            ⟨some 19, Op.move (Operand.tmp 3), some (15, false)⟩,
            ⟨some 20, Op.binOp BinOp.neq 3 (Operand.tmp 18) (Operand.tmp 19) 3, some (15, false)⟩,
            ⟨some 21, Op.pick (Operand.tmp 15) (Operand.const (Value.bool true)) (Operand.tmp 20), none⟩,
            ⟨some 22, Op.move (Operand.tmp 21), none⟩,
            ⟨some 23, Op.fieldAddr 36 (Operand.tmp 1) 2, some (22, false)⟩,
            ⟨some 24, Op.load 22 (Operand.tmp 23), some (22, false)⟩,
            ⟨some 25, Op.call { callee := Callee.builtin Builtin.len, args := #[Operand.tmp 24], argTypes := #[22] }, some (22, false)⟩,
            ⟨some 26, Op.move (Operand.tmp 3), some (22, false)⟩,
            ⟨some 27, Op.binOp BinOp.neq 3 (Operand.tmp 25) (Operand.tmp 26) 3, some (22, false)⟩,
            ⟨some 28, Op.pick (Operand.tmp 22) (Operand.const (Value.bool true)) (Operand.tmp 27), none⟩,
            ⟨some 29, Op.move (Operand.tmp 28), none⟩,
            ⟨some 30, Op.fieldAddr 36 (Operand.tmp 1) 3, some (29, false)⟩,
            ⟨some 31, Op.load 22 (Operand.tmp 30), some (29, false)⟩,
            ⟨some 32, Op.call { callee := Callee.builtin Builtin.len, args := #[Operand.tmp 31], argTypes := #[22] }, some (29, false)⟩,
            ⟨some 33, Op.move (Operand.tmp 3), some (29, false)⟩,
            ⟨some 34, Op.binOp BinOp.neq 3 (Operand.tmp 32) (Operand.tmp 33) 3, some (29, false)⟩,
            ⟨some 35, Op.pick (Operand.tmp 29) (Operand.const (Value.bool true)) (Operand.tmp 34), none⟩,
            ⟨some 36, Op.move (Operand.tmp 35), none⟩,
            ⟨some 37, Op.fieldAddr 36 (Operand.tmp 1) 4, some (36, false)⟩,
            ⟨some 38, Op.load 31 (Operand.tmp 37), some (36, false)⟩,
            ⟨some 39, Op.call { callee := Callee.builtin Builtin.len, args := #[Operand.tmp 38], argTypes := #[31] }, some (36, false)⟩,
            ⟨some 40, Op.move (Operand.tmp 3), some (36, false)⟩,
            ⟨some 41, Op.binOp BinOp.neq 3 (Operand.tmp 39) (Operand.tmp 40) 3, some (36, false)⟩,
            ⟨some 42, Op.pick (Operand.tmp 36) (Operand.const (Value.bool true)) (Operand.tmp 41), none⟩])
          (.cond (Operand.tmp 42)
            (.seq
              (.region [] false ([]) [
                ⟨some 2, Op.assign (Operand.const (Value.bool false)), none⟩])
              .ret)
            .skip))
        (.seq
          (.region [44] false ([]) [
            ⟨some 43, Op.load 36 (Operand.tmp 1), none⟩,
            ⟨some 44, Op.call { callee := Callee.value (Operand.func 45), args := #[Operand.tmp 43], argTypes := #[36] }, none⟩,
            ⟨some 4, Op.assign (Operand.tmp 44), none⟩])
          (.seq
            (.seq
              (.region [] false ([]) [
                ⟨some 45, Op.move (Operand.tmp 4), none⟩,
                ⟨some 46, Op.call { callee := Callee.builtin Builtin.len, args := #[Operand.tmp 45], argTypes := #[68] }, none⟩,
                ⟨some 47, Op.move (Operand.tmp 3), none⟩,
                ⟨some 48, Op.binOp BinOp.lss 3 (Operand.tmp 46) (Operand.tmp 47) 3, none⟩,
                ⟨some 49, Op.move (Operand.tmp 48), none⟩,
                ⟨some 50, Op.fieldAddr 36 (Operand.tmp 1) 2, some (49, false)⟩,
                ⟨some 51, Op.load 22 (Operand.tmp 50), some (49, false)⟩,
                ⟨some 52, Op.indexAddr 22 (Operand.tmp 51) (Operand.const (Value.int IntKind.i64 0)), some (49, false)⟩,
                ⟨some 53, Op.load 2 (Operand.tmp 52), some (49, false)⟩,
                ⟨some 54, Op.binOp BinOp.neq 2 (Operand.tmp 53) (Operand.const (Value.int IntKind.i64 (-1))) 2, some (49, false)⟩,
                ⟨some 55, Op.pick (Operand.tmp 49) (Operand.const (Value.bool true)) (Operand.tmp 54), none⟩,
                ⟨some 56, Op.move (Operand.tmp 55), none⟩,
                ⟨some 57, Op.fieldAddr 36 (Operand.tmp 1) 3, some (56, false)⟩,
                ⟨some 58, Op.load 22 (Operand.tmp 57), some (56, false)⟩,
                ⟨some 59, Op.indexAddr 22 (Operand.tmp 58) (Operand.const (Value.int IntKind.i64 0)), some (56, false)⟩,
                ⟨some 60, Op.load 2 (Operand.tmp 59), some (56, false)⟩,
                ⟨some 61, Op.binOp BinOp.neq 2 (Operand.tmp 60) (Operand.const (Value.int IntKind.i64 (-1))) 2, some (56, false)⟩,
                ⟨some 62, Op.pick (Operand.tmp 56) (Operand.const (Value.bool true)) (Operand.tmp 61), none⟩,
                ⟨some 63, Op.move (Operand.tmp 62), none⟩,
                ⟨some 64, Op.fieldAddr 36 (Operand.tmp 1) 4, some (63, false)⟩,
                ⟨some 65, Op.load 31 (Operand.tmp 64), some (63, false)⟩,
                ⟨some 66, Op.indexAddr 31 (Operand.tmp 65) (Operand.const (Value.int IntKind.i64 0)), some (63, false)⟩,
                ⟨some 67, Op.load 4 (Operand.tmp 66), some (63, false)⟩,
                ⟨some 68, Op.pick (Operand.tmp 63) (Operand.const (Value.bool true)) (Operand.tmp 67), none⟩])
              (.cond (Operand.tmp 68)
                (.seq
                  (.region [] false ([]) [
                    ⟨some 2, Op.assign (Operand.const (Value.bool false)), none⟩])
                  .ret)
                .skip))
            (.seq
              (.seq
                (.region [] false ([]) [
                  ⟨some 5, Op.assign (Operand.const (Value.int IntKind.i64 1)), none⟩])
                (.block 0
                  (.loop
                    (.seq
                      (.seq
                        (.region [] false ([]) [
                          ⟨some 69, Op.move (Operand.tmp 5), none⟩,
                          ⟨some 70, Op.move (Operand.tmp 3), none⟩,
                          ⟨some 71, Op.binOp BinOp.lss 3 (Operand.tmp 69) (Operand.tmp 70) 3, none⟩])
                        (.cond (Operand.tmp 71)
                          .skip
                          (.exit 0)))
                      (.seq
                        (.block 1
                          (.seq
                            (.region [100] true ([]) [
                              ⟨some 74, Op.fieldAddr 36 (Operand.tmp 1) 3, none⟩,
                              ⟨some 75, Op.load 22 (Operand.tmp 74), none⟩,
                              ⟨some 76, Op.move (Operand.tmp 5), none⟩,
                              ⟨some 77, Op.indexAddr 22 (Operand.tmp 75) (Operand.tmp 76), none⟩,
                              ⟨some 78, Op.load 2 (Operand.tmp 77), none⟩,
                              ⟨some 79, Op.binOp BinOp.lss 2 (Operand.tmp 78) (Operand.const (Value.int IntKind.i64 (-2))) 2, none⟩,
                              ⟨some 80, Op.move (Operand.tmp 79), none⟩,
                              ⟨some 81, Op.fieldAddr 36 (Operand.tmp 1) 3, some (80, false)⟩,
                              ⟨some 82, Op.load 22 (Operand.tmp 81), some (80, false)⟩,
                              ⟨some 83, Op.move (Operand.tmp 5), some (80, false)⟩,
                              ⟨some 84, Op.indexAddr 22 (Operand.tmp 82) (Operand.tmp 83), some (80, false)⟩,
                              ⟨some 85, Op.load 2 (Operand.tmp 84), some (80, false)⟩,
                              ⟨some 86, Op.binOp BinOp.geq 2 (Operand.tmp 85) (Operand.const (Value.int IntKind.i64 4000)) 2, some (80, false)⟩,
                              ⟨some 87, Op.pick (Operand.tmp 80) (Operand.const (Value.bool true)) (Operand.tmp 86), none⟩,
                              ⟨some 88, Op.move (Operand.tmp 87), none⟩,
                              ⟨some 89, Op.fieldAddr 36 (Operand.tmp 1) 2, some (88, false)⟩,
                              ⟨some 90, Op.load 22 (Operand.tmp 89), some (88, false)⟩,
                              ⟨some 91, Op.move (Operand.tmp 5), some (88, false)⟩,
                              ⟨some 92, Op.indexAddr 22 (Operand.tmp 90) (Operand.tmp 91), some (88, false)⟩,
                              ⟨some 93, Op.load 2 (Operand.tmp 92), some (88, false)⟩,
                              ⟨some 94, Op.move (Operand.tmp 4), some (88, false)⟩,
                              ⟨some 95, Op.move (Operand.tmp 4), some (88, false)⟩,
                              ⟨some 96, Op.move (Operand.tmp 5), some (88, false)⟩,
                              ⟨some 97, Op.indexAddr 68 (Operand.tmp 95) (Operand.tmp 96), some (88, false)⟩,
                              ⟨some 98, Op.fieldAddr 72 (Operand.tmp 97) 0, some (88, false)⟩,
                              ⟨some 99, Op.load 22 (Operand.tmp 98), some (88, false)⟩,
                              ⟨some 100, Op.call { callee := Callee.value (Operand.func 46), args := #[Operand.tmp 94, Operand.tmp 99, Operand.const (Value.int IntKind.i64 1)], argTypes := #[68, 22, 3] }, some (88, false)⟩,
                              ⟨some 101, Op.binOp BinOp.neq 2 (Operand.tmp 93) (Operand.tmp 100) 2, some (88, false)⟩,
                              ⟨some 102, Op.pick (Operand.tmp 88) (Operand.const (Value.bool true)) (Operand.tmp 101), none⟩])
                            (.cond (Operand.tmp 102)
                              (.seq
                                (.region [] false ([]) [
                                  ⟨some 2, Op.assign (Operand.const (Value.bool false)), none⟩])
                                .ret)
                              .skip)))
                        (.region [] false ([]) [
                          ⟨some 72, Op.move (Operand.tmp 5), none⟩,
                          ⟨some 73, Op.binOp BinOp.add 3 (Operand.tmp 72) (Operand.const (Value.int IntKind.i64 1)) 3, none⟩,
                          ⟨some 5, Op.assign (Operand.tmp 73), none⟩]))))))
              (.seq
                (.region [] false ([]) [
                  ⟨some 2, Op.assign (Operand.const (Value.bool true)), none⟩])
                .ret)))))))
set_option maxHeartbeats 2000000 in
theorem vaS (a : Au) (b1 : a.parent.length ≤ 1048576) (b2 : a.last.length ≤ 1048576) (b3 : a.fail.length ≤ 1048576) (b4 : a.must.length ≤ 1048576) (b5 : a.bad.length ≤ 1048576) :
    CallsF Try.prog 17 [.agg (encAu a)] (.t (.v (.bool (decide (VA a))))) [] := by
  refine callsF_of_wp2 (fn := Try.f17) (k := k17) (fun _ => []) mixed (by kernel_rfl) rfl (by kernel_rfl) (by kernel_rfl) (by kernel_rfl) rfl (by simp [Try.f17]) (by simp [Arg.like]) ?_
  generalize hst : St.enter [.agg (encAu a)] = st0
  have t0 : st0.tm 0 = .agg ((encAu a) |>.map .t) := by rw [← hst]; rfl
  clear hst
  unfold k17
  simp [encAu] at t0
  obtain ⟨k, hk, hS, hno⟩ := first_bad (SOKA a.parent a.last) a.parent.length
  by_cases hl : a.parent.length ≤ 2000 ∧ a.last.length = a.parent.length
  · obtain ⟨hl1, hl2⟩ := hl
    repeat' (first
      | (refine wp2_seq fun K hK => ?_)
      | (refine wp1_seq fun K hK => ?_)
      | (refine M_cons fun K hK => ?_)
      | (refine hK _ ?_; clear hK K)
      | (clear hK K; refine hK _ ?_; clear hK K)
      | (clear hK K; clear hK K; refine hK _ ?_; clear hK K)
      | (clear hK K; clear hK K; clear hK K; refine hK _ ?_; clear hK K)
      | (refine hX _ ?_; clear hX hY X Y)
      | (refine hY _ ?_; clear hX hY X Y)
      | (refine wp2_block ?_)
      | (refine wp1_block ?_)
      | (refine wp2_region ?_)
      | (refine wp1_region ?_)
      | (refine wp2_cond fun X Y hX hY => ?_)
      | (refine wp1_cond fun X Y hX hY => ?_)
      | (refine condK_of (fun c => ?_) (fun c => ?_) <;> (try simp [-List.length_eq_zero_iff] at c))
      | (refine guard1_or (fun c => ?_) (fun c => ?_) <;> (have cc := c) <;> (try simp [-List.length_eq_zero_iff] at cc) <;> (try simp (disch := omega) [t0, encAu, c]))
      | (refine callT_gen false (spell_c a (k := k) hl1 hl2 hk hS hno) (by simp) (by simp [St.args, St.arg, t0, encAu] <;> first | rfl | ((repeat' first | rfl | apply And.intro); done)) (by simp [apartArgs, mutsOf, noRow]) (by simp [callFrz, valsOf, outEff]) ?_)
      | (simp (disch := omega) [t0, encAu]))
    all_goals try (simp [t0, encAu, Back]; done)
    all_goals try (simp [Back]; intro h; have e1 := h.n1; have e2 := h.n2; have e3 := h.l1; have e4 := h.l2; have e5 := h.l3; have e6 := h.l4; omega)
    all_goals try (simp [Back]; intro h; have e1 := h.f0; have e2 := h.m0; have e3 := h.b0; first | omega | simp_all; done)
    all_goals try (have hv : ¬ VA a := (fun h => hno (by simp only [decide_eq_true_eq] at *; omega) (h.so _ (by simp only [decide_eq_true_eq] at *; omega))); simp [Back, hv]; done)
    simp only [decide_eq_true_eq, decide_eq_false_iff_not, bne_eq_false_iff_eq, Int.not_lt, Nat.not_lt] at *
    have n1 : 1 ≤ a.parent.length := by omega
    have l2 : a.fail.length = a.parent.length := by omega
    have l3 : a.must.length = a.parent.length := by omega
    have l4 : a.bad.length = a.parent.length := by omega
    obtain rfl : k = a.parent.length := by omega
    have f0 : rd a.fail 0 = -1 := by omega
    have m0 : rd a.must 0 = -1 := by omega
    have b0 : rdb a.bad 0 = false := by first | assumption | (simp_all; done)
    have wds := wds_of (by omega) hS
    have trie := trie_of hS n1 rfl hl2
    have hnil : [] ∈ wsOf a.parent a.last a.parent.length := List.mem_of_getElem? trie.root
    have hJ : (∀ i : Nat, 1 ≤ i → i < a.parent.length → MOK a i ∧ FOK a i) → ∀ s, K s := by
      intro hq s
      have hv : VA a := ⟨n1, hl1, hl2, l2, l3, l4, f0, m0, b0, hS, fun i h1 h2 => (hq i h1 h2).1, fun i h1 h2 => (hq i h1 h2).2⟩
      repeat' (first
        | (refine wp2_seq fun K hK => ?_)
        | (refine wp1_seq fun K hK => ?_)
        | (refine M_cons fun K hK => ?_)
        | (refine hK _ ?_; clear hK K)
        | (clear hK K; refine hK _ ?_; clear hK K)
        | (clear hK K; clear hK K; refine hK _ ?_; clear hK K)
        | (clear hK K; clear hK K; clear hK K; refine hK _ ?_; clear hK K)
        | (refine hX _ ?_; clear hX hY X Y)
        | (refine hY _ ?_; clear hX hY X Y)
        | (refine wp2_block ?_)
        | (refine wp1_block ?_)
        | (refine wp2_region ?_)
        | (refine wp1_region ?_)
        | (refine wp2_cond fun X Y hX hY => ?_)
        | (refine wp1_cond fun X Y hX hY => ?_)
        | (refine condK_of (fun c => ?_) (fun c => ?_) <;> (try simp [-List.length_eq_zero_iff] at c))
        | (refine guard1_or (fun c => ?_) (fun c => ?_) <;> (have cc := c) <;> (try simp [-List.length_eq_zero_iff] at cc) <;> (try simp (disch := omega) [hv, c]))
        | (simp (disch := omega) [hv]))
      all_goals try (simp [hv, Back]; done)
    clear hK
    refine wp2_loop (fun n s => ∃ j : Nat, s.tm 1 = .ptr (1, 0) 0 0 ∧ s.ob (1, 0) = objAu a ∧ s.tm 3 = .t (.v (.int .i64 a.parent.length)) ∧ s.tm 4 = .row (44, 0) 1 0 a.parent.length ∧ s.ob (44, 0) = some (.row 1 (wordRow (wsOf a.parent a.last a.parent.length))) ∧ s.tm 5 = .t (.v (.int .i64 j)) ∧ 1 ≤ j ∧ j ≤ a.parent.length ∧ n = a.parent.length - j ∧ (∀ i : Nat, i < j → 1 ≤ i → MOK a i ∧ FOK a i)) (a.parent.length - 1) ?_ ?_
    · refine ⟨1, ?_⟩
      simp [t0, objAu]
      first
        | omega
        | exact ⟨n1, fun i h1 h2 => absurd h1 (by omega)⟩
        | (refine ⟨by omega, fun i h1 h2 => ?_⟩; omega)
    · rintro n s ⟨j, s1, o1, s3, s4, o4, s5, hj, hjn, rfl, hq⟩ K' hK'
      simp only [objAu] at o1
      by_cases hlt : j < a.parent.length
      · have w1 : wd (wsOf a.parent a.last a.parent.length) j = W a.parent a.last j := by rw [wsOf_W (by omega) (by omega), Int.toNat_natCast]
        have w2 := W_len (hS j hlt)
        have hwl := wsOf_length a.parent a.last a.parent.length
        have w3 : 1 ≤ (W a.parent a.last j).length := by rw [W_pos hj]; simp
        have tw : (wordRow (wsOf a.parent a.last a.parent.length)).take a.parent.length = wordRow (wsOf a.parent a.last a.parent.length) := by
          have := take_wordRow (wsOf a.parent a.last a.parent.length)
          rwa [wsOf_length] at this
        repeat' (first
          | (refine wp2_seq fun K hK => ?_)
          | (refine wp1_seq fun K hK => ?_)
          | (refine M_cons fun K hK => ?_)
          | (refine hK _ ?_; clear hK K)
          | (clear hK K; refine hK _ ?_; clear hK K)
          | (clear hK K; clear hK K; refine hK _ ?_; clear hK K)
          | (clear hK K; clear hK K; clear hK K; refine hK _ ?_; clear hK K)
          | (refine hX _ ?_; clear hX hY X Y)
          | (refine hY _ ?_; clear hX hY X Y)
          | (refine wp2_block ?_)
          | (refine wp1_block ?_)
          | (refine wp2_region ?_)
          | (refine wp1_region ?_)
          | (refine wp2_cond fun X Y hX hY => ?_)
          | (refine wp1_cond fun X Y hX hY => ?_)
          | (refine condK_of (fun c => ?_) (fun c => ?_) <;> (try simp [-List.length_eq_zero_iff] at c))
          | (refine guard1_or (fun c => ?_) (fun c => ?_) <;> (have cc := c) <;> (try simp [-List.length_eq_zero_iff] at cc) <;> (try simp (disch := omega) [s1, o1, s3, s4, o4, s5, w1, tw, c]))
          | (refine callT_fl (longest1_c wds hnil ?_ ?_) (by simp [St.args, St.arg, s1, o1, s3, s4, o4, s5, w1, tw] <;> first | rfl | ((repeat' first | rfl | apply And.intro); done)) (by first | (simp [RV.flat, RV.flats, T.flat]; done) | ((repeat' first | exact flat_intRow _ | exact flat_boolRow _ | exact trivial | constructor | unfold RV.flat | unfold RV.flats); done)) (by simp [mutsOf]) ?_; omega; omega)
          | (simp (disch := omega) [s1, o1, s3, s4, o4, s5, w1, tw]))
        all_goals try (simp [s1, o1, s3, s4, o4, s5, w1, tw, Back]; done)
        all_goals first
          | omega
          | (have hv : ¬ VA a := fun h => by
               have q1 := h.mo j hj hlt
               have q2 := h.fo j hj hlt
               unfold MOK at q1
               unfold FOK at q2
               simp only [decide_eq_true_eq, decide_eq_false_iff_not] at *
               omega
             simp [Back, hv]; done)
          | (refine hK' (a.parent.length - (j + 1)) _ (by omega) ⟨j + 1, ?_⟩
             simp only [decide_eq_true_eq, decide_eq_false_iff_not] at *
             simp [s1, o1, objAu, s3, s4, o4]
             refine ⟨by omega, below_succ (p := fun i : Nat => 1 ≤ i → MOK a i ∧ FOK a i) hq (fun _ => ⟨⟨by omega, by omega⟩, ?_⟩)⟩
             unfold FOK
             omega)
          | skip
      · repeat' (first
          | (refine wp2_seq fun K hK => ?_)
          | (refine wp1_seq fun K hK => ?_)
          | (refine M_cons fun K hK => ?_)
          | (refine hK _ ?_; clear hK K)
          | (clear hK K; refine hK _ ?_; clear hK K)
          | (clear hK K; clear hK K; refine hK _ ?_; clear hK K)
          | (clear hK K; clear hK K; clear hK K; refine hK _ ?_; clear hK K)
          | (refine hX _ ?_; clear hX hY X Y)
          | (refine hY _ ?_; clear hX hY X Y)
          | (refine wp2_block ?_)
          | (refine wp1_block ?_)
          | (refine wp2_region ?_)
          | (refine wp1_region ?_)
          | (refine wp2_cond fun X Y hX hY => ?_)
          | (refine wp1_cond fun X Y hX hY => ?_)
          | (refine condK_of (fun c => ?_) (fun c => ?_) <;> (try simp [-List.length_eq_zero_iff] at c))
          | (refine guard1_or (fun c => ?_) (fun c => ?_) <;> (have cc := c) <;> (try simp [-List.length_eq_zero_iff] at cc) <;> (try simp (disch := omega) [s1, o1, s3, s4, o4, s5, c]))
          | (simp (disch := omega) [s1, o1, s3, s4, o4, s5]))
        all_goals try (simp [s1, o1, s3, s4, o4, s5, Back]; done)
        all_goals first
          | omega
          | exact hJ (fun i h1 h2 => hq i (by omega) h1) _
  · have hv : ¬ VA a := fun h => hl ⟨h.n2, h.l1⟩
    repeat' (first
      | (refine wp2_seq fun K hK => ?_)
      | (refine wp1_seq fun K hK => ?_)
      | (refine M_cons fun K hK => ?_)
      | (refine hK _ ?_; clear hK K)
      | (clear hK K; refine hK _ ?_; clear hK K)
      | (clear hK K; clear hK K; refine hK _ ?_; clear hK K)
      | (clear hK K; clear hK K; clear hK K; refine hK _ ?_; clear hK K)
      | (refine hX _ ?_; clear hX hY X Y)
      | (refine hY _ ?_; clear hX hY X Y)
      | (refine wp2_block ?_)
      | (refine wp1_block ?_)
      | (refine wp2_region ?_)
      | (refine wp1_region ?_)
      | (refine wp2_cond fun X Y hX hY => ?_)
      | (refine wp1_cond fun X Y hX hY => ?_)
      | (refine condK_of (fun c => ?_) (fun c => ?_) <;> (try simp [-List.length_eq_zero_iff] at c))
      | (refine guard1_or (fun c => ?_) (fun c => ?_) <;> (have cc := c) <;> (try simp [-List.length_eq_zero_iff] at cc) <;> (try simp (disch := omega) [t0, hv, c]))
      | (simp (disch := omega) [t0, hv]))
    all_goals try (simp [t0, hv, Back]; done)
    all_goals omega
end Cal

set_option linter.unusedSimpArgs false
set_option linter.unusedVariables false
namespace Cal
open Go Go.Proofs Auto AC
set_option maxRecDepth 100000
theorem fails_iff {a : Au} (n1 : 1 ≤ a.parent.length) (l1 : a.last.length = a.parent.length) (l2 : a.fail.length = a.parent.length) (so : ∀ i < a.parent.length, SOKA a.parent a.last i) (f0 : rd a.fail 0 = -1)
    {r : List Int} (hr : r.length = a.parent.length) (hF : FailsTo (wsOf a.parent a.last a.parent.length) r (wsOf a.parent a.last a.parent.length).length) (h0 : r.getD 0 0 = -1) :
    r = a.fail ↔ ∀ i : Nat, 1 ≤ i → i < a.parent.length → FOK a i := by
  have T := trie_of so n1 rfl l1
  have gs : ∀ s : Nat, s < a.parent.length → (wsOf a.parent a.last a.parent.length).getD s [] = W a.parent a.last s := fun s hs => by
    have := wsOf_W (par := a.parent) (last := a.last) (n := a.parent.length) (i := s) (by omega) (by omega)
    rwa [wd_nat, Int.toNat_natCast] at this
  constructor
  · rintro rfl i h1 hi
    obtain ⟨f, e1, e2, e3⟩ := hF i h1 (by simpa using hi)
    unfold FOK
    rw [rd_getD, e1, ← gs i hi, ← e3]
    exact (stI_at T.rise (by simp; omega) rfl).symm
  · intro fo
    have hG := fails_of n1 l1 so fo
    refine eq_of_rd (by omega) fun i hi => ?_
    by_cases hi0 : i = 0
    · subst hi0
      rw [rd_getD, h0]
      exact f0.symm
    · obtain ⟨f, e1, e2, e3⟩ := hF i (by omega) (by simp; omega)
      obtain ⟨g, e4, e5, e6⟩ := hG i (by omega) (by simp; omega)
      rw [rd_getD, rd_getD, e1, e4, T.inj (i := f) (j := g) (by simp; omega) (by simp; omega) (by rw [e3, e6])]
/-- The code of impl.ValidAuto. -/
def k19 : Code1 :=
  (.seq
    (.region [1] false ([]) [
      ⟨some 1, Op.box 36 (Operand.tmp 0), none⟩,
      ⟨some 2, Op.assign (Operand.const (Value.bool false)), none⟩])
    (.seq
      (.region [] false ([]) [
        ⟨some 6, Op.fieldAddr 36 (Operand.tmp 1) 0, none⟩,
        ⟨some 7, Op.load 22 (Operand.tmp 6), none⟩,
        ⟨some 8, Op.call { callee := Callee.builtin Builtin.len, args := #[Operand.tmp 7], argTypes := #[22] }, none⟩,
        ⟨some 3, Op.assign (Operand.tmp 8), none⟩])
      (.seq
        (.seq
          (.region [] false ([]) [
            ⟨some 9, Op.move (Operand.tmp 3), none⟩,
            ⟨some 10, Op.binOp BinOp.lss 3 (Operand.tmp 9) (Operand.const (Value.int IntKind.i64 1)) 3, none⟩,
            ⟨some 11, Op.move (Operand.tmp 10), none⟩,
            ⟨some 12, Op.move (Operand.tmp 3), some (11, false)⟩,
            ⟨some 13, Op.binOp BinOp.gtr 3 (Operand.tmp 12) (Operand.const (Value.int IntKind.i64 2000)) 3, some (11, false)⟩,
            ⟨some 14, Op.pick (Operand.tmp 11) (Operand.const (Value.bool true)) (Operand.tmp 13), none⟩,
            ⟨some 15, Op.move (Operand.tmp 14), none⟩,
            ⟨some 16, Op.fieldAddr 36 (Operand.tmp 1) 1, some (15, false)⟩,
            ⟨some 17, Op.load 22 (Operand.tmp 16), some (15, false)⟩,
            ⟨some 18, Op.call { callee := Callee.builtin Builtin.len, args := #[Operand.tmp 17], argTypes := #[22] }, some (15, false)⟩,
            ⟨some 19, Op.move (Operand.tmp 3), some (15, false)⟩,
            ⟨some 20, Op.binOp BinOp.neq 3 (Operand.tmp 18) (Operand.tmp 19) 3, some (15, false)⟩,
            ⟨some 21, Op.pick (Operand.tmp 15) (Operand.const (Value.bool true)) (Operand.tmp 20), none⟩,
            ⟨some 22, Op.move (Operand.tmp 21), none⟩,
            ⟨some 23, Op.fieldAddr 36 (Operand.tmp 1) 2, some (22, false)⟩,
            ⟨some 24, Op.load 22 (Operand.tmp 23), some (22, false)⟩,
            ⟨some 25, Op.call { callee := Callee.builtin Builtin.len, args := #[Operand.tmp 24], argTypes := #[22] }, some (22, false)⟩,
            ⟨some 26, Op.move (Operand.tmp 3), some (22, false)⟩,
            ⟨some 27, Op.binOp BinOp.neq 3 (Operand.tmp 25) (Operand.tmp 26) 3, some (22, false)⟩,
            ⟨some 28, Op.pick (Operand.tmp 22) (Operand.const (Value.bool true)) (Operand.tmp 27), none⟩,
            ⟨some 29, Op.move (Operand.tmp 28), none⟩,
            ⟨some 30, Op.fieldAddr 36 (Operand.tmp 1) 3, some (29, false)⟩,
            ⟨some 31, Op.load 22 (Operand.tmp 30), some (29, false)⟩,
            ⟨some 32, Op.call { callee := Callee.builtin Builtin.len, args := #[Operand.tmp 31], argTypes := #[22] }, some (29, false)⟩,
            ⟨some 33, Op.move (Operand.tmp 3), some (29, false)⟩,
            ⟨some 34, Op.binOp BinOp.neq 3 (Operand.tmp 32) (Operand.tmp 33) 3, some (29, false)⟩,
            ⟨some 35, Op.pick (Operand.tmp 29) (Operand.const (Value.bool true)) (Operand.tmp 34), none⟩,
            ⟨some 36, Op.move (Operand.tmp 35), none⟩,
            ⟨some 37, Op.fieldAddr 36 (Operand.tmp 1) 4, some (36, false)⟩,
            ⟨some 38, Op.load 31 (Operand.tmp 37), some (36, false)⟩,
            ⟨some 39, Op.call { callee := Callee.builtin Builtin.len, args := #[Operand.tmp 38], argTypes := #[31] }, some (36, false)⟩,
            ⟨some 40, Op.move (Operand.tmp 3), some (36, false)⟩,
            ⟨some 41, Op.binOp BinOp.neq 3 (Operand.tmp 39) (Operand.tmp 40) 3, some (36, false)⟩,
            ⟨some 42, Op.pick (Operand.tmp 36) (Operand.const (Value.bool true)) (Operand.tmp 41), none⟩])
          (.cond (Operand.tmp 42)
            (.seq
              (.region [] false ([]) [
                ⟨some 2, Op.assign (Operand.const (Value.bool false)), none⟩])
              .ret)
            .skip))
        (.seq
          (.seq
            (.region [] false ([]) [
              ⟨some 43, Op.fieldAddr 36 (Operand.tmp 1) 0, none⟩,
              ⟨some 44, Op.load 22 (Operand.tmp 43), none⟩,
              ⟨some 45, Op.indexAddr 22 (Operand.tmp 44) (Operand.const (Value.int IntKind.i64 0)), none⟩,
              ⟨some 46, Op.load 2 (Operand.tmp 45), none⟩,
              ⟨some 47, Op.binOp BinOp.neq 2 (Operand.tmp 46) (Operand.const (Value.int IntKind.i64 (-1))) 2, none⟩,
              ⟨some 48, Op.move (Operand.tmp 47), none⟩,
              ⟨some 49, Op.fieldAddr 36 (Operand.tmp 1) 1, some (48, false)⟩,
              ⟨some 50, Op.load 22 (Operand.tmp 49), some (48, false)⟩,
              ⟨some 51, Op.indexAddr 22 (Operand.tmp 50) (Operand.const (Value.int IntKind.i64 0)), some (48, false)⟩,
              ⟨some 52, Op.load 2 (Operand.tmp 51), some (48, false)⟩,
              ⟨some 53, Op.binOp BinOp.neq 2 (Operand.tmp 52) (Operand.const (Value.int IntKind.i64 (-1))) 2, some (48, false)⟩,
              ⟨some 54, Op.pick (Operand.tmp 48) (Operand.const (Value.bool true)) (Operand.tmp 53), none⟩,
              ⟨some 55, Op.move (Operand.tmp 54), none⟩,
              ⟨some 56, Op.fieldAddr 36 (Operand.tmp 1) 2, some (55, false)⟩,
              ⟨some 57, Op.load 22 (Operand.tmp 56), some (55, false)⟩,
              ⟨some 58, Op.indexAddr 22 (Operand.tmp 57) (Operand.const (Value.int IntKind.i64 0)), some (55, false)⟩,
              ⟨some 59, Op.load 2 (Operand.tmp 58), some (55, false)⟩,
              ⟨some 60, Op.binOp BinOp.neq 2 (Operand.tmp 59) (Operand.const (Value.int IntKind.i64 (-1))) 2, some (55, false)⟩,
              ⟨some 61, Op.pick (Operand.tmp 55) (Operand.const (Value.bool true)) (Operand.tmp 60), none⟩,
              ⟨some 62, Op.move (Operand.tmp 61), none⟩,
              ⟨some 63, Op.fieldAddr 36 (Operand.tmp 1) 3, some (62, false)⟩,
              ⟨some 64, Op.load 22 (Operand.tmp 63), some (62, false)⟩,
              ⟨some 65, Op.indexAddr 22 (Operand.tmp 64) (Operand.const (Value.int IntKind.i64 0)), some (62, false)⟩,
              ⟨some 66, Op.load 2 (Operand.tmp 65), some (62, false)⟩,
              ⟨some 67, Op.binOp BinOp.neq 2 (Operand.tmp 66) (Operand.const (Value.int IntKind.i64 (-1))) 2, some (62, false)⟩,
              ⟨some 68, Op.pick (Operand.tmp 62) (Operand.const (Value.bool true)) (Operand.tmp 67), none⟩,
              ⟨some 69, Op.move (Operand.tmp 68), none⟩,
              ⟨some 70, Op.fieldAddr 36 (Operand.tmp 1) 4, some (69, false)⟩,
              ⟨some 71, Op.load 31 (Operand.tmp 70), some (69, false)⟩,
              ⟨some 72, Op.indexAddr 31 (Operand.tmp 71) (Operand.const (Value.int IntKind.i64 0)), some (69, false)⟩,
              ⟨some 73, Op.load 4 (Operand.tmp 72), some (69, false)⟩,
              ⟨some 74, Op.pick (Operand.tmp 69) (Operand.const (Value.bool true)) (Operand.tmp 73), none⟩])
            (.cond (Operand.tmp 74)
              (.seq
                (.region [] false ([]) [
                  ⟨some 2, Op.assign (Operand.const (Value.bool false)), none⟩])
                .ret)
              .skip))
          (.seq
            (.region [76] false ([]) [
              ⟨some 75, Op.move (Operand.tmp 3), none⟩,
              ⟨some 76, Op.makeSlice 74 (Operand.tmp 75) (Operand.tmp 75), none⟩,
              ⟨some 4, Op.assign (Operand.tmp 76), none⟩])
            (.seq
              (.seq
                (.region [] false ([]) [
                  ⟨some 5, Op.assign (Operand.const (Value.int IntKind.i64 1)), none⟩])
                (.block 0
                  (.loop
                    (.seq
                      (.seq
                        (.region [] false ([]) [
                          ⟨some 77, Op.move (Operand.tmp 5), none⟩,
                          ⟨some 78, Op.move (Operand.tmp 3), none⟩,
                          ⟨some 79, Op.binOp BinOp.lss 3 (Operand.tmp 77) (Operand.tmp 78) 3, none⟩])
                        (.cond (Operand.tmp 79)
                          .skip
                          (.exit 0)))
                      (.seq
                        (.block 1
                          (.seq
                            (.seq
                              (.region [] false ([]) [
                                ⟨some 82, Op.fieldAddr 36 (Operand.tmp 1) 0, none⟩,
                                ⟨some 83, Op.load 22 (Operand.tmp 82), none⟩,
                                ⟨some 84, Op.move (Operand.tmp 5), none⟩,
                                ⟨some 85, Op.indexAddr 22 (Operand.tmp 83) (Operand.tmp 84), none⟩,
                                ⟨some 86, Op.load 2 (Operand.tmp 85), none⟩,
                                ⟨some 87, Op.binOp BinOp.lss 2 (Operand.tmp 86) (Operand.const (Value.int IntKind.i64 0)) 2, none⟩,
                                ⟨some 88, Op.move (Operand.tmp 87), none⟩,
                                ⟨some 89, Op.fieldAddr 36 (Operand.tmp 1) 0, some (88, false)⟩,
                                ⟨some 90, Op.load 22 (Operand.tmp 89), some (88, false)⟩,
                                ⟨some 91, Op.move (Operand.tmp 5), some (88, false)⟩,
                                ⟨some 92, Op.indexAddr 22 (Operand.tmp 90) (Operand.tmp 91), some (88, false)⟩,
                                ⟨some 93, Op.load 2 (Operand.tmp 92), some (88, false)⟩,
                                ⟨some 94, Op.move (Operand.tmp 5), some (88, false)⟩,
                                ⟨some 95, Op.binOp BinOp.geq 2 (Operand.tmp 93) (Operand.tmp 94) 2, some (88, false)⟩,
                                ⟨some 96, Op.pick (Operand.tmp 88) (Operand.const (Value.bool true)) (Operand.tmp 95), none⟩,
                                ⟨some 97, Op.move (Operand.tmp 96), none⟩,
                                ⟨some 98, Op.fieldAddr 36 (Operand.tmp 1) 1, some (97, false)⟩,
                                ⟨some 99, Op.load 22 (Operand.tmp 98), some (97, false)⟩,
                                ⟨some 100, Op.move (Operand.tmp 5), some (97, false)⟩,
                                ⟨some 101, Op.indexAddr 22 (Operand.tmp 99) (Operand.tmp 100), some (97, false)⟩,
                                ⟨some 102, Op.load 2 (Operand.tmp 101), some (97, false)⟩,
                                ⟨some 103, Op.binOp BinOp.lss 2 (Operand.tmp 102) (Operand.const (Value.int IntKind.i64 0)) 2, some (97, false)⟩,
                                ⟨some 104, Op.pick (Operand.tmp 97) (Operand.const (Value.bool true)) (Operand.tmp 103), none⟩,
                                ⟨some 105, Op.move (Operand.tmp 104), none⟩,
                                ⟨some 106, Op.fieldAddr 36 (Operand.tmp 1) 1, some (105, false)⟩,
                                ⟨some 107, Op.load 22 (Operand.tmp 106), some (105, false)⟩,
                                ⟨some 108, Op.move (Operand.tmp 5), some (105, false)⟩,
                                ⟨some 109, Op.indexAddr 22 (Operand.tmp 107) (Operand.tmp 108), some (105, false)⟩,
                                ⟨some 110, Op.load 2 (Operand.tmp 109), some (105, false)⟩,
                                ⟨some 111, Op.binOp BinOp.geq 2 (Operand.tmp 110) (Operand.const (Value.int IntKind.i64 4000)) 2, some (105, false)⟩,
                                ⟨some 112, Op.pick (Operand.tmp 105) (Operand.const (Value.bool true)) (Operand.tmp 111), none⟩,
                                ⟨some 113, Op.move (Operand.tmp 112), none⟩,
                                ⟨some 114, Op.fieldAddr 36 (Operand.tmp 1) 3, some (113, false)⟩,
                                ⟨some 115, Op.load 22 (Operand.tmp 114), some (113, false)⟩,
                                ⟨some 116, Op.move (Operand.tmp 5), some (113, false)⟩,
                                ⟨some 117, Op.indexAddr 22 (Operand.tmp 115) (Operand.tmp 116), some (113, false)⟩,
                                ⟨some 118, Op.load 2 (Operand.tmp 117), some (113, false)⟩,
                                ⟨some 119, Op.binOp BinOp.lss 2 (Operand.tmp 118) (Operand.const (Value.int IntKind.i64 (-2))) 2, some (113, false)⟩,
                                ⟨some 120, Op.pick (Operand.tmp 113) (Operand.const (Value.bool true)) (Operand.tmp 119), none⟩,
                                ⟨some 121, Op.move (Operand.tmp 120), none⟩,
                                ⟨some 122, Op.fieldAddr 36 (Operand.tmp 1) 3, some (121, false)⟩,
                                ⟨some 123, Op.load 22 (Operand.tmp 122), some (121, false)⟩,
                                ⟨some 124, Op.move (Operand.tmp 5), some (121, false)⟩,
                                ⟨some 125, Op.indexAddr 22 (Operand.tmp 123) (Operand.tmp 124), some (121, false)⟩,
                                ⟨some 126, Op.load 2 (Operand.tmp 125), some (121, false)⟩,
                                ⟨some 127, Op.binOp BinOp.geq 2 (Operand.tmp 126) (Operand.const (Value.int IntKind.i64 4000)) 2, some (121, false)⟩,
                                ⟨some 128, Op.pick (Operand.tmp 121) (Operand.const (Value.bool true)) (Operand.tmp 127), none⟩])
                              (.cond (Operand.tmp 128)
                                (.seq
                                  (.region [] false ([]) [
                                    ⟨some 2, Op.assign (Operand.const (Value.bool false)), none⟩])
                                  .ret)
                                .skip))
                            (.seq
                              (.region [] false ([]) [
                                ⟨some 129, Op.move (Operand.tmp 4), none⟩,
                                ⟨some 130, Op.move (Operand.tmp 5), none⟩,
                                ⟨some 131, Op.move (Operand.tmp 4), none⟩,
                                ⟨some 132, Op.fieldAddr 36 (Operand.tmp 1) 0, none⟩,
                                ⟨some 133, Op.load 22 (Operand.tmp 132), none⟩,
                                ⟨some 134, Op.move (Operand.tmp 5), none⟩,
                                ⟨some 135, Op.indexAddr 22 (Operand.tmp 133) (Operand.tmp 134), none⟩,
                                ⟨some 136, Op.load 2 (Operand.tmp 135), none⟩,
                                ⟨some 137, Op.indexAddr 74 (Operand.tmp 131) (Operand.tmp 136), none⟩,
                                ⟨some 138, Op.load 3 (Operand.tmp 137), none⟩,
                                ⟨some 139, Op.binOp BinOp.add 3 (Operand.tmp 138) (Operand.const (Value.int IntKind.i64 1)) 3, none⟩,
                                ⟨some 140, Op.indexAddr 74 (Operand.tmp 129) (Operand.tmp 130), none⟩,
                                ⟨none, Op.store 3 (Operand.tmp 140) (Operand.tmp 139), none⟩])
                              (.seq
                                (.seq
                                  (.region [] false ([]) [
                                    ⟨some 141, Op.move (Operand.tmp 4), none⟩,
                                    ⟨some 142, Op.move (Operand.tmp 5), none⟩,
                                    ⟨some 143, Op.indexAddr 74 (Operand.tmp 141) (Operand.tmp 142), none⟩,
                                    ⟨some 144, Op.load 3 (Operand.tmp 143), none⟩,
                                    ⟨some 145, Op.binOp BinOp.gtr 3 (Operand.tmp 144) (Operand.const (Value.int IntKind.i64 402)) 3, none⟩])
                                  (.cond (Operand.tmp 145)
                                    (.seq
                                      (.region [] false ([]) [
                                        ⟨some 2, Op.assign (Operand.const (Value.bool false)), none⟩])
                                      .ret)
                                    .skip))
                                (.seq
                                  (.region [] true ([]) [
                                    ⟨some 146, Op.move (Operand.tmp 5), none⟩,
                                    ⟨some 147, Op.binOp BinOp.gtr 3 (Operand.tmp 146) (Operand.const (Value.int IntKind.i64 1)) 3, none⟩,
                                    ⟨some 148, Op.move (Operand.tmp 147), none⟩,
                                    ⟨some 149, Op.fieldAddr 36 (Operand.tmp 1) 0, some (148, true)⟩,
                                    ⟨some 150, Op.load 22 (Operand.tmp 149), some (148, true)⟩,
                                    ⟨some 151, Op.move (Operand.tmp 5), some (148, true)⟩,
                                    ⟨some 152, Op.indexAddr 22 (Operand.tmp 150) (Operand.tmp 151), some (148, true)⟩,
                                    ⟨some 153, Op.load 2 (Operand.tmp 152), some (148, true)⟩,
                                    ⟨some 154, Op.fieldAddr 36 (Operand.tmp 1) 0, some (148, true)⟩,
                                    ⟨some 155, Op.load 22 (Operand.tmp 154), some (148, true)⟩,
                                    ⟨some 156, Op.move (Operand.tmp 5), some (148, true)⟩,
                                    ⟨some 157, Op.binOp BinOp.sub 3 (Operand.tmp 156) (Operand.const (Value.int IntKind.i64 1)) 3, some (148, true)⟩,
                                    ⟨some 158, Op.indexAddr 22 (Operand.tmp 155) (Operand.tmp 157), some (148, true)⟩,
                                    ⟨some 159, Op.load 2 (Operand.tmp 158), some (148, true)⟩,
                                    ⟨some 160, Op.binOp BinOp.lss 2 (Operand.tmp 153) (Operand.tmp 159) 2, some (148, true)⟩,
                                    ⟨some 161, Op.move (Operand.tmp 160), some (148, true)⟩,
                                    ⟨some 162, Op.fieldAddr 36 (Operand.tmp 1) 0, some (161, false)⟩,
                                    ⟨some 163, Op.load 22 (Operand.tmp 162), some (161, false)⟩,
                                    ⟨some 164, Op.move (Operand.tmp 5), some (161, false)⟩,
                                    ⟨some 165, Op.indexAddr 22 (Operand.tmp 163) (Operand.tmp 164), some (161, false)⟩,
                                    ⟨some 166, Op.load 2 (Operand.tmp 165), some (161, false)⟩,
                                    ⟨some 167, Op.fieldAddr 36 (Operand.tmp 1) 0, some (161, false)⟩,
                                    ⟨some 168, Op.load 22 (Operand.tmp 167), some (161, false)⟩,
                                    ⟨some 169, Op.move (Operand.tmp 5), some (161, false)⟩,
                                    ⟨some 170, Op.binOp BinOp.sub 3 (Operand.tmp 169) (Operand.const (Value.int IntKind.i64 1)) 3, some (161, false)⟩,
                                    ⟨some 171, Op.indexAddr 22 (Operand.tmp 168) (Operand.tmp 170), some (161, false)⟩,
                                    ⟨some 172, Op.load 2 (Operand.tmp 171), some (161, false)⟩,
                                    ⟨some 173, Op.binOp BinOp.eql 2 (Operand.tmp 166) (Operand.tmp 172) 2, some (161, false)⟩,
                                    ⟨some 174, Op.move (Operand.tmp 173), some (161, false)⟩,
                                    ⟨some 175, Op.fieldAddr 36 (Operand.tmp 1) 1, some (174, true)⟩,
                                    ⟨some 176, Op.load 22 (Operand.tmp 175), some (174, true)⟩,
                                    ⟨some 177, Op.move (Operand.tmp 5), some (174, true)⟩,
                                    ⟨some 178, Op.indexAddr 22 (Operand.tmp 176) (Operand.tmp 177), some (174, true)⟩,
                                    ⟨some 179, Op.load 2 (Operand.tmp 178), some (174, true)⟩,
                                    ⟨some 180, Op.fieldAddr 36 (Operand.tmp 1) 1, some (174, true)⟩,
                                    ⟨some 181, Op.load 22 (Operand.tmp 180), some (174, true)⟩,
                                    ⟨some 182, Op.move (Operand.tmp 5), some (174, true)⟩,
                                    ⟨some 183, Op.binOp BinOp.sub 3 (Operand.tmp 182) (Operand.const (Value.int IntKind.i64 1)) 3, some (174, true)⟩,
                                    ⟨some 184, Op.indexAddr 22 (Operand.tmp 181) (Operand.tmp 183), some (174, true)⟩,
                                    ⟨some 185, Op.load 2 (Operand.tmp 184), some (174, true)⟩,
                                    ⟨some 186, Op.binOp BinOp.leq 2 (Operand.tmp 179) (Operand.tmp 185) 2, some (174, true)⟩,
                                    ⟨some 187, Op.pick (Operand.tmp 174) (Operand.tmp 186) (Operand.const (Value.bool false)), some (161, false)⟩,
                                    ⟨some 188, Op.pick (Operand.tmp 161) (Operand.const (Value.bool true)) (Operand.tmp 187), some (148, true)⟩,
                                    ⟨some 189, Op.pick (Operand.tmp 148) (Operand.tmp 188) (Operand.const (Value.bool false)), none⟩])
                                  (.cond (Operand.tmp 189)
                                    (.seq
                                      (.region [] false ([]) [
                                        ⟨some 2, Op.assign (Operand.const (Value.bool false)), none⟩])
                                      .ret)
                                    .skip))))))
                        (.region [] false ([]) [
                          ⟨some 80, Op.move (Operand.tmp 5), none⟩,
                          ⟨some 81, Op.binOp BinOp.add 3 (Operand.tmp 80) (Operand.const (Value.int IntKind.i64 1)) 3, none⟩,
                          ⟨some 5, Op.assign (Operand.tmp 81), none⟩]))))))
              (.seq
                (.region [194, 197] true ([]) [
                  ⟨some 190, Op.fieldAddr 36 (Operand.tmp 1) 0, none⟩,
                  ⟨some 191, Op.load 22 (Operand.tmp 190), none⟩,
                  ⟨some 192, Op.fieldAddr 36 (Operand.tmp 1) 1, none⟩,
                  ⟨some 193, Op.load 22 (Operand.tmp 192), none⟩,
                  ⟨some 194, Op.call { callee := Callee.value (Operand.func 49), args := #[Operand.tmp 191, Operand.tmp 193], argTypes := #[22, 22] }, none⟩,
                  ⟨some 195, Op.fieldAddr 36 (Operand.tmp 1) 2, none⟩,
                  ⟨some 196, Op.load 22 (Operand.tmp 195), none⟩,
                  ⟨some 197, Op.call { callee := Callee.value (Operand.func 48), args := #[Operand.tmp 194, Operand.tmp 196], argTypes := #[22, 22] }, none⟩,
                  ⟨some 2, Op.assign (Operand.tmp 197), none⟩])
                .ret)))))))
set_option maxHeartbeats 2000000 in
theorem vaI (a : Au) (b1 : a.parent.length ≤ 1048576) (b2 : a.last.length ≤ 1048576) (b3 : a.fail.length ≤ 1048576) (b4 : a.must.length ≤ 1048576) (b5 : a.bad.length ≤ 1048576) :
    CallsF Try.prog 19 [.agg (encAu a)] (.t (.v (.bool (decide (VA a))))) [] := by
  refine callsF_of_wp2 (fn := Try.f19) (k := k19) (fun _ => []) mixed (by kernel_rfl) rfl (by kernel_rfl) (by kernel_rfl) (by kernel_rfl) rfl (by simp [Try.f19]) (by simp [Arg.like]) ?_
  generalize hst : St.enter [.agg (encAu a)] = st0
  have t0 : st0.tm 0 = .agg ((encAu a) |>.map .t) := by rw [← hst]; rfl
  clear hst
  unfold k19
  simp [encAu] at t0
  repeat' (first
    | (refine wp2_seq fun K hK => ?_)
    | (refine wp1_seq fun K hK => ?_)
    | (refine M_cons fun K hK => ?_)
    | (refine hK _ ?_; clear hK K)
    | (clear hK K; refine hK _ ?_; clear hK K)
    | (clear hK K; clear hK K; refine hK _ ?_; clear hK K)
    | (clear hK K; clear hK K; clear hK K; refine hK _ ?_; clear hK K)
    | (refine hX _ ?_; clear hX hY X Y)
    | (refine hY _ ?_; clear hX hY X Y)
    | (refine wp2_block ?_)
    | (refine wp1_block ?_)
    | (refine wp2_region ?_)
    | (refine wp1_region ?_)
    | (refine wp2_cond fun X Y hX hY => ?_)
    | (refine wp1_cond fun X Y hX hY => ?_)
    | (refine condK_of (fun c => ?_) (fun c => ?_) <;> (try simp [-List.length_eq_zero_iff] at c))
    | (refine guard1_or (fun c => ?_) (fun c => ?_) <;> (have cc := c) <;> (try simp [-List.length_eq_zero_iff] at cc) <;> (try simp (disch := omega) [t0, c]))
    | (simp (disch := omega) [t0]))
  all_goals try (simp [t0, Back]; done)
  all_goals try (simp [Back]; intro h; have e1 := h.n1; have e2 := h.n2; have e3 := h.l1; have e4 := h.l2; have e5 := h.l3; have e6 := h.l4; omega)
  all_goals try (have hv : ¬ VA a := (fun h => by have e1 := h.f0; have e2 := h.m0; have e3 := h.b0; have e4 := soka0.1 (h.so 0 (by have := h.n1; omega)); first | omega | (simp_all; done)); simp [Back, hv]; done)
  simp only [decide_eq_true_eq, decide_eq_false_iff_not, bne_eq_false_iff_eq, Int.not_lt, Nat.not_lt] at *
  have n1 : 1 ≤ a.parent.length := by omega
  have n2 : a.parent.length ≤ 2000 := by omega
  have l1 : a.last.length = a.parent.length := by omega
  have l2 : a.fail.length = a.parent.length := by omega
  have l3 : a.must.length = a.parent.length := by omega
  have l4 : a.bad.length = a.parent.length := by omega
  have p0 : rd a.parent 0 = -1 := by omega
  have q0 : rd a.last 0 = -1 := by omega
  have f0 : rd a.fail 0 = -1 := by omega
  have m0 : rd a.must 0 = -1 := by omega
  have b0 : rdb a.bad 0 = false := by assumption
  have b0 := b0
  have drop := True.intro
  have hJ : (∀ i < a.parent.length, SOKA a.parent a.last i) → (∀ i : Nat, 1 ≤ i → i < a.parent.length → MOK a i) → ∀ s, s.tm 1 = .ptr (1, 0) 0 0 → s.ob (1, 0) = objAu a → K s := by
    intro hS hM s s1 o1
    simp only [objAu] at o1
    have T := trie_of hS n1 rfl l1
    have S := small_of hS n1 rfl n2
    obtain ⟨r, _, hr, hF, h0⟩ := T.fails_ok
    rw [wsOf_length] at hr
    have hi := fails_iff n1 l1 l2 hS f0 hr hF h0
    have hv : VA a ↔ r = a.fail := by
      rw [hi]
      exact ⟨fun h => h.fo, fun h => ⟨n1, n2, l1, l2, l3, l4, f0, m0, b0, hS, hM, h⟩⟩
    repeat' (first
      | (refine wp2_seq fun K hK => ?_)
      | (refine wp1_seq fun K hK => ?_)
      | (refine M_cons fun K hK => ?_)
      | (refine hK _ ?_; clear hK K)
      | (clear hK K; refine hK _ ?_; clear hK K)
      | (clear hK K; clear hK K; refine hK _ ?_; clear hK K)
      | (clear hK K; clear hK K; clear hK K; refine hK _ ?_; clear hK K)
      | (refine hX _ ?_; clear hX hY X Y)
      | (refine hY _ ?_; clear hX hY X Y)
      | (refine wp2_block ?_)
      | (refine wp1_block ?_)
      | (refine wp2_region ?_)
      | (refine wp1_region ?_)
      | (refine wp2_cond fun X Y hX hY => ?_)
      | (refine wp1_cond fun X Y hX hY => ?_)
      | (refine condK_of (fun c => ?_) (fun c => ?_) <;> (try simp [-List.length_eq_zero_iff] at c))
      | (refine guard1_or (fun c => ?_) (fun c => ?_) <;> (have cc := c) <;> (try simp [-List.length_eq_zero_iff] at cc) <;> (try simp (disch := omega) [s1, o1, c]))
      | (refine callT_fl (failsOf_c T S (by rw [hr, wsOf_length]) hF h0) (by simp [St.args, St.arg, s1, o1] <;> first | rfl | ((repeat' first | rfl | apply And.intro); done)) (by first | (simp [RV.flat, RV.flats, T.flat]; done) | ((repeat' first | exact flat_intRow _ | exact flat_boolRow _ | exact trivial | constructor | unfold RV.flat | unfold RV.flats); done)) (by simp [mutsOf]) ?_)
      | (refine callT_fl (equal_c _ _ ?_ ?_) (by simp [St.args, St.arg, s1, o1] <;> first | rfl | ((repeat' first | rfl | apply And.intro); done)) (by first | (simp [RV.flat, RV.flats, T.flat]; done) | ((repeat' first | exact flat_intRow _ | exact flat_boolRow _ | exact trivial | constructor | unfold RV.flat | unfold RV.flats); done)) (by simp [mutsOf]) ?_; omega; omega)
      | (simp (disch := omega) [s1, o1]))
    all_goals try (simp [s1, o1, Back]; done)
    all_goals first
      | omega
      | (simp [Back, hv]; done)
  clear hK
  refine wp2_loop (fun n s => ∃ (j : Nat) (d : List Int), s.tm 1 = .ptr (1, 0) 0 0 ∧ s.ob (1, 0) = objAu a ∧ s.tm 3 = .t (.v (.int .i64 a.parent.length)) ∧ s.tm 4 = .row (76, 0) 1 0 a.parent.length ∧ s.ob (76, 0) = some (.row 1 (intRow d)) ∧ s.tm 5 = .t (.v (.int .i64 j)) ∧ 1 ≤ j ∧ j ≤ a.parent.length ∧ n = a.parent.length - j ∧ d.length = a.parent.length ∧ (∀ i : Nat, i < j → SOKA a.parent a.last i ∧ rd d i = (W a.parent a.last i).length ∧ (1 ≤ i → MOK a i))) (a.parent.length - 1) ?_ ?_
  · refine ⟨1, List.replicate a.parent.length 0, ?_⟩
    simp [t0, objAu]
    refine ⟨n1, soka0.2 ⟨p0, q0⟩, ?_⟩
    rw [W_zero]
    rw [rd_getI, List.getD_eq_getElem?_getD, List.getElem?_replicate]
    split <;> rfl
  · rintro n s ⟨j, d, s1, o1, s3, s4, o4, s5, hj, hjn, rfl, hd, hq⟩ K' hK'
    simp only [objAu] at o1
    by_cases hlt : j < a.parent.length
    · have e5 : 0 ≤ rd a.parent j → rd a.parent j < j → rd d (max (rd a.parent j) 0) = (W a.parent a.last (rd a.parent j).toNat).length := fun g0 g1 => by
        have h1 := (hq (rd a.parent j).toNat (by omega)).2.1
        rw [show (((rd a.parent j).toNat : Nat) : Int) = max (rd a.parent j) 0 by omega] at h1
        exact h1
      have e4 : 0 ≤ rd a.parent j → rd a.parent j < j → (W a.parent a.last j).length = (W a.parent a.last (rd a.parent j).toNat).length + 1 := fun g0 g1 => by
        rw [W_word hj g0 g1]; simp
      have e6 : 0 ≤ rd a.parent j → rd a.parent j < j → 2 ≤ j → _ := fun g0 g1 g2 => order_iff (fun i hi => (hq i hi).1) g2 g0 g1
      have e7 : 0 ≤ rd a.parent j → rd a.parent j < j → j = 1 → Short.before (W a.parent a.last (j - 1)) (W a.parent a.last j) = true := fun g0 g1 g2 => by
        rw [W_word hj g0 g1]
        subst g2
        rw [show 1 - 1 = 0 from rfl, W_zero]
        exact Short.before_nil _ _
      have e8 : 0 ≤ rd a.parent j → rd a.parent j < j → (W a.parent a.last (rd a.parent j).toNat).length ≤ 402 := fun g0 g1 => W_len (hq (rd a.parent j).toNat (by omega)).1
      have e9 : rd (d.set j ((W a.parent a.last (rd a.parent j).toNat).length + 1 : Int)) j = (W a.parent a.last (rd a.parent j).toNat).length + 1 := rd_set_eq (by omega)
      have hds : (d.set j ((W a.parent a.last (rd a.parent j).toNat).length + 1 : Int)).length = a.parent.length := by rw [List.length_set]; exact hd
      rw [show ((j - 1 : Nat) : Int) = (j : Int) - 1 by omega] at e6
      have iff : (SOKA a.parent a.last j ∧ MOK a j) ↔ (0 ≤ rd a.parent j ∧ rd a.parent j < j ∧ 0 ≤ rd a.last j ∧ rd a.last j < 4000 ∧ (W a.parent a.last j).length ≤ 402 ∧ (2 ≤ j → rd a.parent ((j : Int) - 1) < rd a.parent j ∨ (rd a.parent ((j : Int) - 1) = rd a.parent j ∧ rd a.last ((j : Int) - 1) < rd a.last j)) ∧ -2 ≤ rd a.must j ∧ rd a.must j < 4000) := by
        rw [soka hj]
        unfold MOK
        constructor
        · rintro ⟨⟨g1, g2, g3, g4, g5, g6⟩, g7, g8⟩
          exact ⟨g1, g2, g3, g4, g5, fun h2 => (e6 g1 g2 h2).1 g6, g7, g8⟩
        · rintro ⟨g1, g2, g3, g4, g5, g6, g7, g8⟩
          refine ⟨⟨g1, g2, g3, g4, g5, ?_⟩, g7, g8⟩
          by_cases h2 : 2 ≤ j
          · exact (e6 g1 g2 h2).2 (g6 h2)
          · exact e7 g1 g2 (by omega)
      have no : ¬ (0 ≤ rd a.parent j ∧ rd a.parent j < j ∧ 0 ≤ rd a.last j ∧ rd a.last j < 4000 ∧ (W a.parent a.last j).length ≤ 402 ∧ (2 ≤ j → rd a.parent ((j : Int) - 1) < rd a.parent j ∨ (rd a.parent ((j : Int) - 1) = rd a.parent j ∧ rd a.last ((j : Int) - 1) < rd a.last j)) ∧ -2 ≤ rd a.must j ∧ rd a.must j < 4000) → ¬ VA a := fun h hv => h (iff.1 ⟨hv.so j hlt, hv.mo j hj hlt⟩)
      have yes := iff.2
      clear iff e6 e7
      repeat' (first
        | (refine wp2_seq fun K hK => ?_)
        | (refine wp1_seq fun K hK => ?_)
        | (refine M_cons fun K hK => ?_)
        | (refine hK _ ?_; clear hK K)
        | (clear hK K; refine hK _ ?_; clear hK K)
        | (clear hK K; clear hK K; refine hK _ ?_; clear hK K)
        | (clear hK K; clear hK K; clear hK K; refine hK _ ?_; clear hK K)
        | (refine hX _ ?_; clear hX hY X Y)
        | (refine hY _ ?_; clear hX hY X Y)
        | (refine wp2_block ?_)
        | (refine wp1_block ?_)
        | (refine wp2_region ?_)
        | (refine wp1_region ?_)
        | (refine wp2_cond fun X Y hX hY => ?_)
        | (refine wp1_cond fun X Y hX hY => ?_)
        | (refine condK_of (fun c => ?_) (fun c => ?_) <;> (try simp [-List.length_eq_zero_iff] at c))
        | (refine guard1_or (fun c => ?_) (fun c => ?_) <;> (have cc := c) <;> (try simp [-List.length_eq_zero_iff] at cc) <;> (try simp (disch := omega) [s1, o1, s3, s4, o4, s5, hd, e5, e9, c]))
        | (simp (disch := omega) [s1, o1, s3, s4, o4, s5, hd, e5, e9]))
      all_goals try (simp [s1, o1, s3, s4, o4, s5, hd, e5, e9, Back]; done)
      all_goals try (have hv : ¬ VA a := no (by simp only [decide_eq_true_eq, decide_eq_false_iff_not, Int.not_lt, beq_iff_eq, beq_eq_false_iff_ne] at *; omega); simp [Back, hv]; done)
      all_goals first
        | omega
        | (simp only [decide_eq_true_eq, decide_eq_false_iff_not, Int.not_lt, beq_iff_eq, beq_eq_false_iff_ne] at *
           have y := yes ⟨by omega, by omega, by omega, by omega, by omega, by omega, by omega, by omega⟩
           refine hK' (a.parent.length - (j + 1)) _ (by omega) ⟨j + 1, d.set j ((W a.parent a.last (rd a.parent j).toNat).length + 1 : Int), ?_⟩
           simp [s1, o1, objAu, s3, s4, o4, hd]
           refine ⟨by omega, below_succ (p := fun i : Nat => SOKA a.parent a.last i ∧ rd (d.set j ((W a.parent a.last (rd a.parent j).toNat).length + 1 : Int)) i = (W a.parent a.last i).length ∧ (1 ≤ i → MOK a i)) (fun i hi => ⟨(hq i hi).1, by rw [rd_set_ne (by omega)]; exact (hq i hi).2.1, (hq i hi).2.2⟩) ⟨y.1, by rw [e9]; omega, fun _ => y.2⟩⟩)
        | skip
    · repeat' (first
        | (refine wp2_seq fun K hK => ?_)
        | (refine wp1_seq fun K hK => ?_)
        | (refine M_cons fun K hK => ?_)
        | (refine hK _ ?_; clear hK K)
        | (clear hK K; refine hK _ ?_; clear hK K)
        | (clear hK K; clear hK K; refine hK _ ?_; clear hK K)
        | (clear hK K; clear hK K; clear hK K; refine hK _ ?_; clear hK K)
        | (refine hX _ ?_; clear hX hY X Y)
        | (refine hY _ ?_; clear hX hY X Y)
        | (refine wp2_block ?_)
        | (refine wp1_block ?_)
        | (refine wp2_region ?_)
        | (refine wp1_region ?_)
        | (refine wp2_cond fun X Y hX hY => ?_)
        | (refine wp1_cond fun X Y hX hY => ?_)
        | (refine condK_of (fun c => ?_) (fun c => ?_) <;> (try simp [-List.length_eq_zero_iff] at c))
        | (refine guard1_or (fun c => ?_) (fun c => ?_) <;> (have cc := c) <;> (try simp [-List.length_eq_zero_iff] at cc) <;> (try simp (disch := omega) [s1, o1, s3, s4, o4, s5, c]))
        | (simp (disch := omega) [s1, o1, s3, s4, o4, s5]))
      all_goals try (simp [s1, o1, s3, s4, o4, s5, Back]; done)
      all_goals first
        | omega
        | exact hJ (fun i h1 => (hq i (by omega)).1) (fun i h1 h2 => (hq i (by omega)).2.2 h1) _ (by simp [s1]) (by simp [o1, objAu])
end Cal
