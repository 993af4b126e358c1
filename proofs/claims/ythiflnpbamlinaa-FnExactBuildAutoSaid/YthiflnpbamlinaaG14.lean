/- A part of the proof: a calculus of our own over the model's code, and contracts of the program's functions. -/
import Derived.Test.YthiflnpbamlinaaG1
import Derived.Test.YthiflnpbamlinaaG11
import Derived.Test.YthiflnpbamlinaaG12
import Derived.Test.YthiflnpbamlinaaG13
/- A calculus of our own: more rules for reckoning: maps. -/
set_option linter.unusedSimpArgs false
set_option linter.unusedVariables false
namespace Cal
open Go Go.Proofs
/-- Fields put into a struct, their values given. -/
def fillV (P : Program) (t : TypeId) (zero : List AV) : List (Nat × AV) → Option (List AV)
  | [] => some zero
  | (i, x) :: l => match foff P t i with
    | some (off, size, _) => if x.cells.length = size ∧ off + size ≤ zero.length ∧ x.cells.all AV.one then fillV P t (over zero off x.cells) l else none
    | none => none
@[simp] theorem fillA_eq (P : Program) (t : TypeId) (st : St) : ∀ (parts : List (Nat × Operand)) (zero : List AV), fillA P t st zero parts = fillV P t zero (parts.map fun p => (p.1, st.ev p.2))
  | [], zero => rfl
  | (i, x) :: l, zero => by
    unfold fillA
    rw [List.map_cons]
    unfold fillV
    cases foff P t i with
    | none => rfl
    | some r =>
      obtain ⟨off, size, ag⟩ := r
      dsimp only
      split
      · exact fillA_eq P t st l _
      · rfl
attribute [simp] fillV
/-- Entries of a map, as abstract values and as values. -/
def vmap {α : Type} (f : α → Value) (kvs : List (MK × α)) : List (MK × AV) := kvs.map fun p => (p.1, .t (.v (f p.2)))
def vmapT {α : Type} (f : α → Value) (kvs : List (MK × α)) : List (MK × Value) := kvs.map fun p => (p.1, f p.2)
@[simp] theorem vmap_nil {α : Type} (f : α → Value) : vmap f [] = [] := rfl
theorem mset_vmap {α : Type} (f : α → Value) (k : MK) (x : α) : ∀ kvs : List (MK × α), mset (vmap f kvs) k (.t (.v (f x))) = vmap f (mset kvs k x)
  | [] => rfl
  | p :: l => by
    have ih := mset_vmap f k x l
    simp only [vmap, List.map_cons, mset] at *
    split
    · rfl
    · rw [ih]; rfl
theorem mget_vmap {α : Type} (f : α → Value) (k : MK) : ∀ kvs : List (MK × α), mget (vmap f kvs) k = (mget kvs k).map fun x => .t (.v (f x))
  | [] => rfl
  | p :: l => by
    have ih := mget_vmap f k l
    simp only [vmap, List.map_cons, mget] at *
    split
    · rfl
    · exact ih
theorem mget_vmapT {α : Type} (f : α → Value) (k : MK) : ∀ kvs : List (MK × α), mget (vmapT f kvs) k = (mget kvs k).map f
  | [] => rfl
  | p :: l => by
    have ih := mget_vmapT f k l
    simp only [vmapT, List.map_cons, mget] at *
    split
    · rfl
    · exact ih
@[simp] theorem flat_vmap {α : Type} (f : α → Value) : ∀ kvs : List (MK × α), flatVals (vmap f kvs) = some (vmapT f kvs)
  | [] => rfl
  | p :: l => by
    have ih := flat_vmap f l
    simp only [vmap, vmapT, List.map_cons, flatVals] at *
    rw [ih]
    rfl
@[simp] theorem vmap_T {α : Type} (f : α → Value) (kvs : List (MK × α)) : ((vmapT f kvs).map fun p => (p.1, AV.t (.v p.2))) = vmap f kvs := by
  simp [vmap, vmapT]
@[simp] theorem kill_vmap {α : Type} (ds : List Nat) (f : α → Value) (kvs : List (MK × α)) : ((vmap f kvs).map fun p => (p.1, p.2.kill ds)) = vmap f kvs := by
  simp [vmap]
@[simp] theorem kill1_vmap {α : Type} (q : Id) (f : α → Value) (kvs : List (MK × α)) : ((vmap f kvs).map fun p => (p.1, p.2.kill1 q)) = vmap f kvs := by
  simp [vmap]
@[simp] theorem ren_vmap {α : Type} (r : Id → Id) (f : α → Value) (kvs : List (MK × α)) : ((vmap f kvs).map fun p => (p.1, p.2.renG r)) = vmap f kvs := by
  simp [vmap]
theorem mget_mset {α : Type} (k k' : MK) (x : α) : ∀ kvs : List (MK × α), mget (mset kvs k x) k' = if k = k' then some x else mget kvs k'
  | [] => by simp [mset, mget]
  | p :: l => by
    have ih := mget_mset k k' x l
    unfold mset
    by_cases h : p.1 = k
    · rw [if_pos h]
      by_cases h2 : k = k'
      · simp [mget, h2]
      · have : ¬ p.1 = k' := fun e => h2 (h.symm.trans e)
        simp [mget, h2, this]
    · rw [if_neg h]
      unfold mget
      by_cases h3 : p.1 = k'
      · have : ¬ k = k' := fun e => h (h3.trans e.symm)
        simp [h3, this]
      · simp [h3, ih]
theorem in64_of {n : Int} (h0 : -9223372036854775808 ≤ n) (h1 : n < 9223372036854775808) : in64 n = true := by simp [in64, h0, h1]
@[simp] theorem keyA_i (n : Int) (h0 : -9223372036854775808 ≤ n) (h1 : n < 9223372036854775808) : keyA 0 (.t (.v (.int .i64 n))) = some (.i n) := by simp [keyA, in64_of h0 h1]
@[simp] theorem keyA_p (a b : Int) (h0 : -9223372036854775808 ≤ a) (h1 : a < 9223372036854775808) (h2 : -9223372036854775808 ≤ b) (h3 : b < 9223372036854775808) : keyA 1 (.agg [.t (.v (.int .i64 a)), .t (.v (.int .i64 b))]) = some (.p a b) := by simp [keyA, in64_of h0 h1, in64_of h2 h3]
/-- A lookup, its key and its map known. -/
def lookB (z : Value) (ok : Bool) (kd : Nat) (k : MK) (o : Option Ob) : Option (AV × Eff) :=
  match o with
  | some (.map kd' kvs) => if kd' = kd then some (lookR ok z (mget kvs k), []) else none
  | some (.fmap kd' kvs) => if kd' = kd then some (lookR ok z ((mget kvs k).map fun x => .t (.v x)), []) else none
  | _ => none
def lookK (z : Value) (ok : Bool) (st : St) (kd : Nat) (x : AV) : Option MK → Option (AV × Eff)
  | none => none
  | some k => match x with
    | .t (.v (.map none)) => some (lookR ok z none, [])
    | .t (.mp kd' kvs) => if kd' = kd then some (lookR ok z ((mget kvs k).map fun x => .t (.v x)), []) else none
    | .mp id => lookB z ok kd k (st.ob id)
    | _ => none
@[simp] theorem lookA_def (st : St) (kt kd : Nat) (z : Value) (ok : Bool) (x k : AV) : lookA st (some ⟨kt, kd, z⟩) ok x k = lookK z ok st kd x (keyA kd k) := by
  unfold lookA lookK
  dsimp only
  cases keyA kd k with
  | none => rfl
  | some key => dsimp only; split <;> first | rfl | (split <;> first | rfl | (simp_all; done))
@[simp] theorem lookK_T {α : Type} (z : Value) (st : St) (kd : Nat) (f : α → Value) (kvs : List (MK × α)) (k : MK) (ok : Bool) : lookK z ok st kd (.t (.mp kd (vmapT f kvs))) (some k) = some (lookR ok z ((mget kvs k).map fun x => .t (.v (f x))), []) := by
  simp [lookK, mget_vmapT]
  rfl
@[simp] theorem lookK_mp (z : Value) (st : St) (kd : Nat) (id : Id) (k : MK) (ok : Bool) : lookK z ok st kd (.mp id) (some k) = lookB z ok kd k (st.ob id) := rfl
@[simp] theorem lookB_v {α : Type} (z : Value) (kd : Nat) (f : α → Value) (kvs : List (MK × α)) (k : MK) (ok : Bool) : lookB z ok kd k (some (.map kd (vmap f kvs))) = some (lookR ok z ((mget kvs k).map fun x => .t (.v (f x))), []) := by
  simp [lookB, mget_vmap]
@[simp] theorem lookR_ti (z : Int) (o : Option Int) : lookR true (.int .i64 z) (o.map fun x => .t (.v (.int .i64 x))) = .tup [.t (.v (.int .i64 (o.getD z))), .t (.v (.bool o.isSome))] := by cases o <;> rfl
@[simp] theorem lookR_fi (z : Int) (o : Option Int) : lookR false (.int .i64 z) (o.map fun x => .t (.v (.int .i64 x))) = .t (.v (.int .i64 (o.getD z))) := by cases o <;> rfl
@[simp] theorem lookR_fb (z : Bool) (o : Option Bool) : lookR false (.bool z) (o.map fun x => .t (.v (.bool x))) = .t (.v (.bool (o.getD z))) := by cases o <;> rfl
@[simp] theorem lookR_tn (z : Value) : lookR true z none = .tup [.t (.v z), .t (.v (.bool false))] := rfl
@[simp] theorem lookR_ts (z : Value) (v : AV) : lookR true z (some v) = .tup [v, .t (.v (.bool true))] := rfl
@[simp] theorem lookR_fn (z : Value) : lookR false z none = .t (.v z) := rfl
@[simp] theorem lookR_fs (z : Value) (v : AV) : lookR false z (some v) = v := rfl
def mupB (id : Id) (kd : Nat) (v : AV) (k : MK) : Option Ob → Option Eff
  | some (.map kd' kvs) => if kd' = kd ∧ v.one = true then some [(id, some (.map kd' (mset kvs k v)))] else none
  | _ => none
def mupK (st : St) (kd : Nat) (x v : AV) : Option MK → Option Eff
  | none => none
  | some k => match x with
    | .mp id => mupB id kd v k (st.ob id)
    | _ => none
@[simp] theorem mupA_def (st : St) (kt kd : Nat) (z : Value) (x k v : AV) : mupA st (some ⟨kt, kd, z⟩) x k v = mupK st kd x v (keyA kd k) := by
  unfold mupA mupK
  dsimp only
  cases keyA kd k with
  | none => rfl
  | some key => dsimp only; split <;> first | rfl | (split <;> first | rfl | (simp_all; done))
@[simp] theorem mupK_mp (st : St) (kd : Nat) (id : Id) (v : AV) (k : MK) : mupK st kd (.mp id) v (some k) = mupB id kd v k (st.ob id) := rfl
@[simp] theorem mupB_i (id : Id) (kd : Nat) (x : Int) (k : MK) (kvs : List (MK × Int)) : mupB id kd (.t (.v (.int .i64 x))) k (some (.map kd (vmap (Value.int .i64) kvs))) = some [(id, some (.map kd (vmap (Value.int .i64) (mset kvs k x))))] := by
  simp [mupB, mset_vmap, AV.one]
@[simp] theorem mupB_b (id : Id) (kd : Nat) (x : Bool) (k : MK) (kvs : List (MK × Bool)) : mupB id kd (.t (.v (.bool x))) k (some (.map kd (vmap Value.bool kvs))) = some [(id, some (.map kd (vmap Value.bool (mset kvs k x))))] := by
  simp [mupB, mset_vmap, AV.one]
@[simp] theorem mupB_i0 (id : Id) (kd : Nat) (x : Int) (k : MK) : mupB id kd (.t (.v (.int .i64 x))) k (some (.map kd [])) = some [(id, some (.map kd (vmap (Value.int .i64) [(k, x)])))] := mupB_i id kd x k []
@[simp] theorem mupB_b0 (id : Id) (kd : Nat) (x : Bool) (k : MK) : mupB id kd (.t (.v (.bool x))) k (some (.map kd [])) = some [(id, some (.map kd (vmap Value.bool [(k, x)])))] := mupB_b id kd x k []
end Cal

set_option linter.unusedSimpArgs false
set_option linter.unusedVariables false
namespace Cal
open Go Go.Proofs
set_option maxRecDepth 100000
/-- All numbers of a list are int64's. -/
def I64 (l : List Int) : Prop := ∀ i : Int, 0 ≤ i → i < l.length → -9223372036854775808 ≤ rd l i ∧ rd l i < 9223372036854775808
/-- The arrows into the first n states. -/
def arrK (parent last : List Int) : Nat → List (MK × Int)
  | 0 => []
  | s + 1 => if s = 0 then [] else mset (arrK parent last s) (.p (rd parent s) (rd last s)) s
theorem arrK_succ (parent last : List Int) {s : Nat} (h : 1 ≤ s) : arrK parent last (s + 1) = mset (arrK parent last s) (.p (rd parent s) (rd last s)) s := by
  rw [arrK, if_neg (by omega)]
@[simp] theorem arrK_1 (parent last : List Int) : arrK parent last 1 = [] := rfl
/-- The code of impl.arrows. -/
def k122 : Code1 :=
 (.seq
 (.region [] false ([]) [
 ⟨some 4,Op.assign (Operand.const (Value.map none)),none⟩])
 (.seq
 (.region [7] false ([]) [
 ⟨some 7,Op.makeMap 172 none,none⟩,
 ⟨some 5,Op.assign (Operand.tmp 7),none⟩])
 (.seq
 (.seq
 (.region [] false ([]) [
 ⟨some 6,Op.assign (Operand.const (Value.int IntKind.i64 1)),none⟩])
 (.block 0
 (.loop
 (.seq
 (.seq
 (.region [] false ([]) [
 ⟨some 8,Op.move (Operand.tmp 6),none⟩,
 ⟨some 9,Op.move (Operand.tmp 0),none⟩,
 ⟨some 10,Op.call {callee:=Callee.builtin Builtin.len,args:=#[Operand.tmp 9],argTypes:=#[22]},none⟩,
 ⟨some 11,Op.binOp BinOp.lss 3 (Operand.tmp 8) (Operand.tmp 10) 3,none⟩])
 (.cond (Operand.tmp 11)
 .skip
 (.exit 0)))
 (.seq
 (.block 1
 (.region [] true ([]) [
 ⟨some 14,Op.move (Operand.tmp 5),none⟩,
 ⟨some 15,Op.move (Operand.tmp 0),none⟩,
 ⟨some 16,Op.move (Operand.tmp 6),none⟩,
 ⟨some 17,Op.indexAddr 22 (Operand.tmp 15) (Operand.tmp 16),none⟩,
 ⟨some 18,Op.load 2 (Operand.tmp 17),none⟩,
 ⟨some 19,Op.move (Operand.tmp 1),none⟩,
 ⟨some 20,Op.move (Operand.tmp 6),none⟩,
 ⟨some 21,Op.indexAddr 22 (Operand.tmp 19) (Operand.tmp 20),none⟩,
 ⟨some 22,Op.load 2 (Operand.tmp 21),none⟩,
 ⟨some 23,Op.build 219 #[(0,Operand.tmp 18),(1,Operand.tmp 22)],none⟩,
 ⟨some 24,Op.move (Operand.tmp 6),none⟩,
 ⟨none,Op.mapUpdate 172 (Operand.tmp 14) (Operand.tmp 23) (Operand.tmp 24),none⟩]))
 (.region [] false ([]) [
 ⟨some 12,Op.move (Operand.tmp 6),none⟩,
 ⟨some 13,Op.binOp BinOp.add 3 (Operand.tmp 12) (Operand.const (Value.int IntKind.i64 1)) 3,none⟩,
 ⟨some 6,Op.assign (Operand.tmp 13),none⟩]))))))
 (.seq
 (.region [] false ([]) [
 ⟨some 25,Op.move (Operand.tmp 5),none⟩,
 ⟨some 4,Op.assign (Operand.tmp 25),none⟩])
 .ret))))
theorem arrows_c (parent last : List Int) (hp : parent.length ≤ 1048576) (hl : parent.length ≤ last.length) (h1 : I64 parent) (h2 : I64 last) :
    CallsF Try.prog 122 [.val (ints parent), .val (ints last)] (.map 1 (vmapT (Value.int .i64) (arrK parent last parent.length))) [] := by
  refine callsF_of_wp2 (fn := Try.f122) (k := k122) (fun _ => []) mixed (by kernel_rfl) rfl (by kernel_rfl) (by kernel_rfl) (by kernel_rfl) rfl (by simp [Try.f122]) (by simp [Arg.like]) ?_
  generalize hst : St.enter [.val (ints parent), .val (ints last)] = st0
  have t0 : st0.tm 0 = .t (ints parent) := by rw [← hst]; rfl
  have t1 : st0.tm 1 = .t (ints last) := by rw [← hst]; rfl
  clear hst
  unfold k122
  repeat' (first
   | refine wp2_seq fun K hK => ?_
   | refine M_cons fun K hK => ?_
   | (refine hK _ ?_; clear hK K)
   | refine wp2_block ?_
   | refine wp2_region ?_
   | simp (maxSteps := 4000000) (disch := omega) [t0, t1])
  have hJ : ∀ s, s.tm 5 = .mp (7, 0) → s.ob (7, 0) = some (.map 1 (vmap (Value.int .i64) (arrK parent last parent.length))) → K s := by
    intro s s5 o
    repeat' (first
     | refine wp2_seq fun K hK => ?_
     | refine M_cons fun K hK => ?_
     | (refine hK _ ?_; clear hK K)
     | refine wp2_region ?_
     | simp (maxSteps := 4000000) (disch := omega) [s5, o])
    all_goals try (simp [s5, o, Back]; done)
  clear hK
  refine wp2_loop (fun n s => ∃ k : Nat, s.tm 0 = .t (ints parent) ∧ s.tm 1 = .t (ints last) ∧ s.tm 5 = .mp (7, 0) ∧ s.ob (7, 0) = some (.map 1 (vmap (Value.int .i64) (arrK parent last k))) ∧ s.tm 6 = .t (.v (.int .i64 k)) ∧ 1 ≤ k ∧ n = parent.length - k ∧ (parent.length ≤ k → arrK parent last k = arrK parent last parent.length)) (parent.length - 1) ?_ ?_
  · refine ⟨1, ?_⟩
    simp [t0, t1]
    intro h
    have : parent.length = 0 ∨ parent.length = 1 := by omega
    rcases this with h | h <;> rw [h] <;> rfl
  · rintro n s ⟨k, s0, s1, s5, o, s6, hk, rfl, he⟩ K' hK'
    have e1 := h1 k
    have e2 := h2 k
    have e3 := arrK_succ parent last hk
    repeat' (first
     | refine wp2_seq fun K hK => ?_
     | refine M_cons fun K hK => ?_
     | (refine hK _ ?_; clear hK K)
     | (refine hX _ ?_; clear hX hY X Y)
     | (refine hY _ ?_; clear hX hY X Y)
     | refine wp2_block ?_
     | refine wp2_region ?_
     | refine wp2_cond fun X Y hX hY => ?_
     | (refine condK_of (fun c => ?_) (fun c => ?_) <;> (try simp [-List.length_eq_zero_iff] at c))
     | simp (maxSteps := 4000000) (disch := omega) [s0, s1, s5, o, s6])
    · refine hK' (parent.length - (k + 1)) _ (by omega) ⟨k + 1, ?_⟩
      simp [s0, s1, s5, e3]
      intro h
      have : parent.length = k + 1 := by omega
      rw [this, e3]
    · exact hJ _ (by simp [s5]) (by simp [o, he c])
end Cal

set_option linter.unusedSimpArgs false
set_option linter.unusedVariables false
namespace Cal
open Go Go.Proofs Auto AC
set_option maxRecDepth 100000
theorem rd_getD (l : List Int) (s : Nat) : rd l s = l.getD s 0 := by simp [rd]
theorem rd_getI (l : List Int) (i : Int) : rd l i = l.getD i.toNat 0 := rfl
theorem mget_arrK (parent last : List Int) (f e : Int) : ∀ n, mget (arrK parent last n) (.p f e) = arr parent last n f e
  | 0 => rfl
  | s + 1 => by
    have ih := mget_arrK parent last f e s
    rw [arrK]
    unfold arr
    by_cases h : s = 0
    · subst h
      simp [mget, arr]
    · rw [if_neg h, mget_mset, ih, rd_getD, rd_getD]
      by_cases h1 : parent.getD s 0 = f <;> by_cases h2 : last.getD s 0 = e <;> simp [h, h1, h2]
/-- Edges, and what stands at the root. -/
structure Small (parent last : List Int) : Prop where
  p : ∀ s, 1 ≤ s → s < parent.length → 0 ≤ last.getD s 0 ∧ last.getD s 0 < 4000
  n : parent.length ≤ 2000
  p0 : rd parent 0 = -1
  l0 : rd last 0 = -1
theorem I64_of {l : List Int} (h : ∀ s, s < l.length → -9223372036854775808 ≤ l.getD s 0 ∧ l.getD s 0 < 9223372036854775808) : I64 l := fun i h0 h1 => by
  rw [rd_getI]
  exact h i.toNat (by omega)
theorem Trie.i64p {ws : List (List Int)} {parent last : List Int} (T : Trie ws parent last) (h : Small parent last) : I64 parent := I64_of fun s hs => by
  have h1 := h.n
  have h2 := T.lp
  by_cases h0 : s = 0
  · subst h0
    have := h.p0
    rw [rd_getI] at this
    simp only [Int.toNat_zero] at this
    omega
  · have := T.par s (by omega) (by omega)
    omega
theorem Trie.i64l {ws : List (List Int)} {parent last : List Int} (T : Trie ws parent last) (h : Small parent last) : I64 last := I64_of fun s hs => by
  have h1 := h.n
  have h2 := T.lp
  have h3 := T.ll
  by_cases h0 : s = 0
  · subst h0
    have := h.l0
    rw [rd_getI] at this
    simp only [Int.toNat_zero] at this
    omega
  · have := h.p s (by omega) (by omega)
    omega
/-- One link of a chain. -/
theorem Trie.link {ws : List (List Int)} {parent last : List Int} (T : Trie ws parent last) {f : Nat} (hf : f < ws.length) {e : Int} (ha : arr parent last ws.length f e = none) :
    (f = 0 → ([] : List Int) = LS (isWord ws) (ws.getD f [] ++ [e])) ∧ (f ≠ 0 → LS (isWord ws) (LS (isWord ws) (ws.getD f []).tail ++ [e]) = LS (isWord ws) (ws.getD f [] ++ [e])) := by
  have hnot := T.arr_not hf ha
  constructor
  · rintro rfl
    have hr : ws.getD 0 [] = [] := by rw [List.getD_eq_getElem?_getD, T.root]; rfl
    rw [hr] at hnot ⊢
    have : isWord ws [e] = false := by
      cases hi : isWord ws [e] with
      | false => rfl
      | true => exact absurd (isWord_iff.1 hi) hnot
    simp [LS, this]
  · intro h0
    obtain ⟨a, l, hal⟩ := List.exists_cons_of_ne_nil (T.ne_nil h0 hf)
    rw [hal] at hnot ⊢
    show LS (isWord ws) (LS (isWord ws) l ++ [e]) = _
    refine (LS_link T.closed ?_).symm
    cases hi : isWord ws (a :: l ++ [e]) with
    | false => rfl
    | true => exact absurd (isWord_iff.1 hi) hnot
theorem Trie.found {ws : List (List Int)} {parent last : List Int} (T : Trie ws parent last) {f : Nat} {e t : Int} (ha : arr parent last ws.length f e = some t) :
    ∃ s : Nat, t = s ∧ s < ws.length ∧ ws.getD s [] = LS (isWord ws) (ws.getD f [] ++ [e]) := by
  obtain ⟨s, rfl, hs, hlt, hw⟩ := T.arr_word ha
  refine ⟨s, rfl, hs, ?_⟩
  rw [hw, LS_self]
  rw [isWord_iff, ← hw]
  exact mem_getD hs
/-- The link of a state, out of its parent's. -/
theorem Trie.next {ws : List (List Int)} {parent last : List Int} (T : Trie ws parent last) {r : List Int} (hF : FailsTo ws r ws.length) {s : Nat} (h1 : 1 ≤ s) (hs : s < ws.length) {t : Nat} (ht : t < ws.length) :
    (parent.getD s 0 = 0 → r.getD s 0 = 0) ∧ (parent.getD s 0 ≠ 0 → ∀ f : Nat, r.getD (parent.getD s 0).toNat 0 = f → ws.getD t [] = LS (isWord ws) (ws.getD f [] ++ [last.getD s 0]) → r.getD s 0 = t) := by
  obtain ⟨g, hg, hgs, hgw⟩ := hF s h1 hs
  have hw := T.word s h1 hs
  have hpar := T.par s h1 hs
  constructor
  · intro h0
    rw [hw, h0] at hgw
    have hr : ws.getD (0 : Int).toNat [] = [] := by show ws.getD 0 [] = []; rw [List.getD_eq_getElem?_getD, T.root]; rfl
    rw [hr] at hgw
    have : g = 0 := T.inj (by omega) T.pos (by rw [hgw]; show ([] : List Int) = ws.getD 0 []; exact hr.symm)
    rw [hg, this]
    rfl
  · intro h0 f hf htw
    obtain ⟨f', hf', hlt, hfw⟩ := hF (parent.getD s 0).toNat (by omega) (by omega)
    have : f = f' := by omega
    subst this
    have : ws.getD t [] = ws.getD g [] := by
      rw [htw, hgw, hfw, hw, ← LS_LS T.closed]
      obtain ⟨a, l, hal⟩ := List.exists_cons_of_ne_nil (T.ne_nil (s := (parent.getD s 0).toNat) (by omega) (by omega))
      rw [hal]; rfl
    rw [hg, T.inj ht (by omega) this]
theorem take_snoc {r : List Int} {k : Nat} (h : k < r.length) : r.take k ++ [rd r k] = r.take (k + 1) := by
  rw [List.take_add_one, rd_getD, List.getD_eq_getElem?_getD]
  congr 1
  rw [List.getElem?_eq_getElem h]
  rfl
theorem rd_take {r : List Int} {k : Nat} {i : Int} (h0 : 0 ≤ i) (h : i < k) : rd (r.take k) i = rd r i := by
  rw [rd_getI, rd_getI, List.getD_eq_getElem?_getD, List.getD_eq_getElem?_getD, List.getElem?_take, if_pos (by omega)]
/-- The code of impl.failsOf. -/
def k101 : Code1 :=
 (.seq
 (.region [] false ([]) [
 ⟨some 4,Op.assign (Operand.const (Value.slice none 0 0)),none⟩])
 (.seq
 (.region [13] false ([]) [
 ⟨some 11,Op.move (Operand.tmp 0),none⟩,
 ⟨some 12,Op.move (Operand.tmp 1),none⟩,
 ⟨some 13,Op.call {callee:=Callee.value (Operand.func 122),args:=#[Operand.tmp 11,Operand.tmp 12],argTypes:=#[22,22]},none⟩,
 ⟨some 5,Op.assign (Operand.tmp 13),none⟩])
 (.seq
 (.region [14] false ([]) [
 ⟨some 14,Op.buildSlice 22 1 #[(0,Operand.const (Value.int IntKind.i64 (-1)))],none⟩,
 ⟨some 6,Op.assign (Operand.tmp 14),none⟩])
 (.seq
 (.seq
 (.region [] false ([]) [
 ⟨some 7,Op.assign (Operand.const (Value.int IntKind.i64 1)),none⟩])
 (.block 0
 (.loop
 (.seq
 (.seq
 (.region [] false ([]) [
 ⟨some 15,Op.move (Operand.tmp 7),none⟩,
 ⟨some 16,Op.move (Operand.tmp 0),none⟩,
 ⟨some 17,Op.call {callee:=Callee.builtin Builtin.len,args:=#[Operand.tmp 16],argTypes:=#[22]},none⟩,
 ⟨some 18,Op.binOp BinOp.lss 3 (Operand.tmp 15) (Operand.tmp 17) 3,none⟩])
 (.cond (Operand.tmp 18)
 .skip
 (.exit 0)))
 (.seq
 (.block 1
 (.seq
 (.seq
 (.region [] false ([]) [
 ⟨some 21,Op.move (Operand.tmp 0),none⟩,
 ⟨some 22,Op.move (Operand.tmp 7),none⟩,
 ⟨some 23,Op.indexAddr 22 (Operand.tmp 21) (Operand.tmp 22),none⟩,
 ⟨some 24,Op.load 2 (Operand.tmp 23),none⟩,
 ⟨some 25,Op.binOp BinOp.eql 2 (Operand.tmp 24) (Operand.const (Value.int IntKind.i64 0)) 2,none⟩])
 (.cond (Operand.tmp 25)
 (.seq
 (.region [27,28] false ([]) [
 ⟨some 26,Op.move (Operand.tmp 6),none⟩,
 ⟨some 27,Op.buildSlice 22 1 #[(0,Operand.const (Value.int IntKind.i64 0))],none⟩,
 ⟨some 28,Op.call {callee:=Callee.builtin Builtin.append,args:=#[Operand.tmp 26,Operand.tmp 27],argTypes:=#[22,22]},none⟩,
 ⟨some 6,Op.assign (Operand.tmp 28),none⟩])
 (.exit 1))
 .skip))
 (.seq
 (.region [] false ([]) [
 ⟨some 29,Op.move (Operand.tmp 6),none⟩,
 ⟨some 30,Op.move (Operand.tmp 0),none⟩,
 ⟨some 31,Op.move (Operand.tmp 7),none⟩,
 ⟨some 32,Op.indexAddr 22 (Operand.tmp 30) (Operand.tmp 31),none⟩,
 ⟨some 33,Op.load 2 (Operand.tmp 32),none⟩,
 ⟨some 34,Op.indexAddr 22 (Operand.tmp 29) (Operand.tmp 33),none⟩,
 ⟨some 35,Op.load 2 (Operand.tmp 34),none⟩,
 ⟨some 8,Op.assign (Operand.tmp 35),none⟩])
 (.block 2
 (.loop
 (.block 3
 (.seq
 (.region [] false ([]) [
 ⟨some 37,Op.move (Operand.tmp 5),none⟩,
 ⟨some 38,Op.move (Operand.tmp 8),none⟩,
 ⟨some 39,Op.move (Operand.tmp 1),none⟩,
 ⟨some 40,Op.move (Operand.tmp 7),none⟩,
 ⟨some 41,Op.indexAddr 22 (Operand.tmp 39) (Operand.tmp 40),none⟩,
 ⟨some 42,Op.load 2 (Operand.tmp 41),none⟩,
 ⟨some 43,Op.build 219 #[(0,Operand.tmp 38),(1,Operand.tmp 42)],none⟩,
 ⟨some 44,Op.lookup 172 (Operand.tmp 37) (Operand.tmp 43) true,none⟩,
 ⟨some 36,Op.move (Operand.tmp 44),none⟩,
 ⟨some 45,Op.extract (Operand.tmp 36) 0,none⟩,
 ⟨some 46,Op.extract (Operand.tmp 36) 1,none⟩,
 ⟨some 9,Op.assign (Operand.tmp 45),none⟩,
 ⟨some 10,Op.assign (Operand.tmp 46),none⟩])
 (.seq
 (.seq
 (.region [] false ([]) [
 ⟨some 47,Op.move (Operand.tmp 10),none⟩])
 (.cond (Operand.tmp 47)
 (.seq
 (.region [50,51] false ([]) [
 ⟨some 48,Op.move (Operand.tmp 6),none⟩,
 ⟨some 49,Op.move (Operand.tmp 9),none⟩,
 ⟨some 50,Op.buildSlice 22 1 #[(0,Operand.tmp 49)],none⟩,
 ⟨some 51,Op.call {callee:=Callee.builtin Builtin.append,args:=#[Operand.tmp 48,Operand.tmp 50],argTypes:=#[22,22]},none⟩,
 ⟨some 6,Op.assign (Operand.tmp 51),none⟩])
 (.exit 2))
 .skip))
 (.seq
 (.seq
 (.region [] false ([]) [
 ⟨some 52,Op.move (Operand.tmp 8),none⟩,
 ⟨some 53,Op.binOp BinOp.eql 2 (Operand.tmp 52) (Operand.const (Value.int IntKind.i64 0)) 2,none⟩])
 (.cond (Operand.tmp 53)
 (.seq
 (.region [55,56] false ([]) [
 ⟨some 54,Op.move (Operand.tmp 6),none⟩,
 ⟨some 55,Op.buildSlice 22 1 #[(0,Operand.const (Value.int IntKind.i64 0))],none⟩,
 ⟨some 56,Op.call {callee:=Callee.builtin Builtin.append,args:=#[Operand.tmp 54,Operand.tmp 55],argTypes:=#[22,22]},none⟩,
 ⟨some 6,Op.assign (Operand.tmp 56),none⟩])
 (.exit 2))
 .skip))
 (.region [] false ([]) [
 ⟨some 57,Op.move (Operand.tmp 6),none⟩,
 ⟨some 58,Op.move (Operand.tmp 8),none⟩,
 ⟨some 59,Op.indexAddr 22 (Operand.tmp 57) (Operand.tmp 58),none⟩,
 ⟨some 60,Op.load 2 (Operand.tmp 59),none⟩,
 ⟨some 8,Op.assign (Operand.tmp 60),none⟩]))))))))))
 (.region [] false ([]) [
 ⟨some 19,Op.move (Operand.tmp 7),none⟩,
 ⟨some 20,Op.binOp BinOp.add 3 (Operand.tmp 19) (Operand.const (Value.int IntKind.i64 1)) 3,none⟩,
 ⟨some 7,Op.assign (Operand.tmp 20),none⟩]))))))
 (.seq
 (.region [] false ([]) [
 ⟨some 61,Op.move (Operand.tmp 6),none⟩,
 ⟨some 4,Op.assign (Operand.tmp 61),none⟩])
 .ret)))))
set_option maxHeartbeats 0 in
theorem failsOf_c {ws : List (List Int)} {parent last r : List Int} (T : Trie ws parent last) (hS : Small parent last) (hr : r.length = ws.length) (hF : FailsTo ws r ws.length) (h0 : r.getD 0 0 = -1) :
    CallsF Try.prog 101 [.val (ints parent), .val (ints last)] (.own 1 (intRow r)) [] := by
  have i1 := Trie.i64p T hS
  have i2 := Trie.i64l T hS
  have l1 := T.lp
  have l2 := T.ll
  have l3 := hS.n
  have l4 := T.pos
  refine callsF_of_wp2 (fn := Try.f101) (k := k101) (fun _ => []) mixed (by kernel_rfl) rfl (by kernel_rfl) (by kernel_rfl) (by kernel_rfl) rfl (by simp [Try.f101]) (by simp [Arg.like]) ?_
  generalize hst : St.enter [.val (ints parent), .val (ints last)] = st0
  have t0 : st0.tm 0 = .t (ints parent) := by rw [← hst]; rfl
  have t1 : st0.tm 1 = .t (ints last) := by rw [← hst]; rfl
  clear hst
  unfold k101
  repeat' (first
   | refine wp2_seq fun K hK => ?_
   | refine M_cons fun K hK => ?_
   | (refine hK _ ?_; clear hK K)
   | refine wp2_block ?_
   | refine wp2_region ?_
   | (refine callT_fl (arrows_c parent last ?_ ?_ i1 i2) (by simp [St.args, St.arg, t0, t1] <;> first | rfl | ((repeat' first | rfl | apply And.intro); first | done | fail)) ?_; omega; omega)
   | simp (maxSteps := 4000000) (disch := omega) [t0, t1])
  have hJ : ∀ s, s.tm 6 = .row (14, 0) 1 0 r.length → s.ob (14, 0) = some (.row 1 (intRow r)) → K s := by
    intro s s6 o
    repeat' (first
     | refine wp2_seq fun K hK => ?_
     | refine M_cons fun K hK => ?_
     | (refine hK _ ?_; clear hK K)
     | refine wp2_region ?_
     | simp (maxSteps := 4000000) (disch := omega) [s6, o])
    all_goals try (simp [s6, o, Back]; done)
  clear hK
  refine wp2_loop (fun n s => ∃ k : Nat, s.tm 0 = .t (ints parent) ∧ s.tm 1 = .t (ints last) ∧ s.tm 5 = .mp (13, 0) ∧ s.ob (13, 0) = some (.map 1 (vmap (Value.int .i64) (arrK parent last parent.length))) ∧ s.tm 6 = .row (14, 0) 1 0 k ∧ s.ob (14, 0) = some (.row 1 (intRow (r.take k))) ∧ s.tm 7 = .t (.v (.int .i64 k)) ∧ 1 ≤ k ∧ k ≤ r.length ∧ n = r.length - k) (r.length - 1) ?_ ?_
  · refine ⟨1, ?_⟩
    have e1 := take_snoc (r := r) (k := 0) (by omega)
    rw [rd_getD, h0] at e1
    simp at e1
    simp [t0, t1, ← e1]
    omega
  · rintro n s ⟨k, s0, s1, s5, om, s6, o, s7, hk, hkr, rfl⟩ K' hK'
    have tl : (r.take k).length = k := by rw [List.length_take]; omega
    by_cases hkn : k < parent.length
    · have q1 := T.par k hk (by omega)
      have q2 := hS.p k hk hkn
      rw [← rd_getD] at q1 q2
      have q3 := take_snoc (r := r) (k := k) (by omega)
      have q4 : rd (r.take k) (max (rd parent k) 0) = rd r (rd parent k) := by rw [show max (rd parent k) 0 = rd parent k by omega]; exact rd_take q1.1 (by omega)
      repeat' (first
       | refine wp2_seq fun K hK => ?_
       | refine M_cons fun K hK => ?_
       | (refine hK _ ?_; clear hK K)
       | (clear hK K; refine hK _ ?_; clear hK K)
       | (refine hX _ ?_; clear hX hY X Y)
       | (refine hY _ ?_; clear hX hY X Y)
       | refine wp2_block ?_
       | refine wp2_canon (ops := ⟨some 19, _, _⟩ :: _) [(6, 14)] ?_
       | refine wp2_region ?_
       | refine wp2_cond fun X Y hX hY => ?_
       | (refine condK_of (fun c => ?_) (fun c => ?_) <;> (try simp [-List.length_eq_zero_iff] at c))
       | simp (maxSteps := 4000000) (disch := omega) [s0, s1, s5, om, s6, o, s7, tl, q4])
      · have q5 := (Trie.next T hF hk (by omega) T.pos).1 (by rw [← rd_getD]; exact c)
        rw [← rd_getD] at q5
        rw [q5] at q3
        refine hK' (r.length - (k + 1)) _ (by omega) ⟨k + 1, ?_⟩
        simp [s0, s1, s5, om, q3]
        omega
      · obtain ⟨f0, g1, g2, g3⟩ := hF (rd parent k).toNat (by omega) (by omega)
        rw [← rd_getI] at g1
        have hI : ∀ id s, (id = 51 ∨ id = 56) → s.tm 0 = .t (ints parent) → s.tm 1 = .t (ints last) → s.tm 5 = .mp (13, 0) → s.ob (13, 0) = some (.map 1 (vmap (Value.int .i64) (arrK parent last parent.length))) → s.tm 6 = .row (id, 0) 1 0 (k + 1) → s.ob (id, 0) = some (.row 1 (intRow (r.take (k + 1)))) → s.tm 7 = .t (.v (.int .i64 k)) → K s := by
          rintro id s (rfl | rfl) s0 s1 s5 om s6 o s7
          · repeat' (first
           | refine M_cons fun K hK => ?_
           | (refine hK _ ?_; clear hK K)
           | refine wp2_canon (ops := ⟨some 19, _, _⟩ :: _) [(6, 14)] ?_
           | simp (maxSteps := 4000000) (disch := omega) [s0, s1, s5, om, s6, o, s7])
            refine hK' (r.length - (k + 1)) _ (by omega) ⟨k + 1, ?_⟩
            simp [s0, s1, s5, om, o, s6]
            omega
          · repeat' (first
           | refine M_cons fun K hK => ?_
           | (refine hK _ ?_; clear hK K)
           | refine wp2_canon (ops := ⟨some 19, _, _⟩ :: _) [(6, 14)] ?_
           | simp (maxSteps := 4000000) (disch := omega) [s0, s1, s5, om, s6, o, s7])
            refine hK' (r.length - (k + 1)) _ (by omega) ⟨k + 1, ?_⟩
            simp [s0, s1, s5, om, o, s6]
            omega
        clear hK hK'
        have nx : ∀ t : Nat, t < ws.length → ws.getD t [] = LS (isWord ws) (ws.getD f0 [] ++ [rd last k]) → rd r k = t := fun t ht hw => by
          have e1 : parent.getD k 0 = rd parent k := (rd_getD parent k).symm
          have := (Trie.next T hF hk (by omega) ht).2 (by rw [← rd_getD]; exact c) f0 (by rw [e1, ← rd_getI]; exact g1) (by rw [← rd_getD]; exact hw)
          rw [rd_getD]; exact this
        refine wp2_loop (fun n s => ∃ f : Nat, s.tm 0 = .t (ints parent) ∧ s.tm 1 = .t (ints last) ∧ s.tm 5 = .mp (13, 0) ∧ s.ob (13, 0) = some (.map 1 (vmap (Value.int .i64) (arrK parent last parent.length))) ∧ s.tm 6 = .row (14, 0) 1 0 k ∧ s.ob (14, 0) = some (.row 1 (intRow (r.take k))) ∧ s.tm 7 = .t (.v (.int .i64 k)) ∧ s.tm 8 = .t (.v (.int .i64 f)) ∧ f < k ∧ n = f ∧ LS (isWord ws) (ws.getD f [] ++ [rd last k]) = LS (isWord ws) (ws.getD f0 [] ++ [rd last k])) f0 ?_ ?_
        · refine ⟨f0, ?_⟩
          simp [s0, s1, s5, om, s6, o, s7, q4, g1]
          omega
        · rintro f s ⟨_, s0, s1, s5, om, s6, o, s7, s8, hf, rfl, hw⟩ K2 hK2
          have ml := mget_arrK parent last f (rd last k) parent.length
          cases ha : arr parent last parent.length f (rd last k) with
          | some t =>
            rw [ha] at ml
            rw [l1] at ha
            obtain ⟨t', rfl, h1, h2⟩ := Trie.found T ha
            rw [nx t' h1 (by rw [h2, hw])] at q3
            repeat' (first
             | refine wp2_seq fun K hK => ?_
             | refine M_cons fun K hK => ?_
             | (refine hK _ ?_; clear hK K)
             | (refine hX _ ?_; clear hX hY X Y)
             | refine wp2_block ?_
             | refine wp2_region ?_
             | refine wp2_cond fun X Y hX hY => ?_
             | (refine condK_of (fun c => ?_) (fun c => ?_) <;> (try simp [-List.length_eq_zero_iff] at c))
             | simp (maxSteps := 4000000) (disch := omega) [s0, s1, s5, om, s6, o, s7, s8, ml, tl])
            exact hI 51 _ (.inl rfl) (by simp [s0]) (by simp [s1]) (by simp [s5]) (by simp [om]) (by simp) (by simp [q3]) (by simp [s7])
          | none =>
            rw [ha] at ml
            rw [l1] at ha
            obtain ⟨z1, z2⟩ := Trie.link T (f := f) (by omega) ha
            by_cases hf0 : f = 0
            · subst hf0
              have := nx 0 T.pos (by
                have hr0 : ws.getD 0 [] = [] := by rw [List.getD_eq_getElem?_getD, T.root]; rfl
                rw [← hw, ← z1 rfl, hr0])
              rw [this] at q3
              simp only [Int.natCast_zero] at *
              repeat' (first
               | refine wp2_seq fun K hK => ?_
               | refine M_cons fun K hK => ?_
               | (refine hK _ ?_; clear hK K)
               | (refine hX _ ?_; clear hX hY X Y)
               | (refine hY _ ?_; clear hX hY X Y)
               | refine wp2_block ?_
               | refine wp2_region ?_
               | refine wp2_cond fun X Y hX hY => ?_
               | (refine condK_of (fun c => ?_) (fun c => ?_) <;> (try simp [-List.length_eq_zero_iff] at c))
               | simp (maxSteps := 4000000) (disch := omega) [s0, s1, s5, om, s6, o, s7, s8, ml, tl])
              all_goals exact hI 56 _ (.inr rfl) (by simp [s0]) (by simp [s1]) (by simp [s5]) (by simp [om]) (by simp) (by simp [q3]) (by simp [s7])
            · obtain ⟨f', w1, w2, w3⟩ := hF f (by omega) (by omega)
              rw [← rd_getD] at w1
              have w4 : rd (r.take k) f = f' := by rw [rd_take (by omega) (by omega)]; exact w1
              repeat' (first
               | refine wp2_seq fun K hK => ?_
               | refine M_cons fun K hK => ?_
               | (refine hK _ ?_; clear hK K)
               | (refine hX _ ?_; clear hX hY X Y)
               | (refine hY _ ?_; clear hX hY X Y)
               | refine wp2_block ?_
               | refine wp2_region ?_
               | refine wp2_cond fun X Y hX hY => ?_
               | (refine condK_of (fun c => ?_) (fun c => ?_) <;> (try simp [-List.length_eq_zero_iff] at c))
               | simp (maxSteps := 4000000) (disch := omega) [s0, s1, s5, om, s6, o, s7, s8, ml, tl, w4, hf0])
              all_goals first
                | omega
                | (refine hK2 f' _ w2 ⟨f', ?_⟩
                   simp [s0, s1, s5, om, s6, o, s7]
                   refine ⟨by omega, ?_⟩
                   have w5 := z2 hf0
                   rw [← w3, hw] at w5
                   simpa using w5)
      · omega
    · repeat' (first
     | refine wp2_seq fun K hK => ?_
     | refine M_cons fun K hK => ?_
     | (refine hK _ ?_; clear hK K)
     | (refine hX _ ?_; clear hX hY X Y)
     | (refine hY _ ?_; clear hX hY X Y)
     | refine wp2_block ?_
     | refine wp2_region ?_
     | refine wp2_cond fun X Y hX hY => ?_
     | (refine condK_of (fun c => ?_) (fun c => ?_) <;> (try simp [-List.length_eq_zero_iff] at c))
     | simp (maxSteps := 4000000) (disch := omega) [s0, s1, s5, om, s6, o, s7, tl])
      all_goals first
        | omega
        | (have : k = r.length := by omega
           subst this
           rw [List.take_length] at o
           exact hJ _ (by simp [s6]) (by simp [o]))
end Cal

/- A calculus of our own: more rules for reckoning: rows of bools, rows of words, parts of rows. -/
set_option linter.unusedSimpArgs false
set_option linter.unusedVariables false
namespace Cal
open Go Go.Proofs
def boolRow (l : List Bool) : List (List T) := l.map fun x => [.v (.bool x)]
def bools (l : List Bool) : T := .sl (boolRow l)
def rdb (l : List Bool) (i : Int) : Bool := l.getD i.toNat false
@[simp] theorem boolRow_length (l : List Bool) : (boolRow l).length = l.length := by simp [boolRow]
@[simp] theorem lenA_bools (k : Nat) (l : List Bool) : lenA (.sl k) (.t (bools l)) = some l.length := by simp [lenA, bools]
theorem boolRow_get {l : List Bool} {i : Nat} (h : i < l.length) : (boolRow l)[i]? = some [.v (.bool (l.getD i false))] := by
  simp [boolRow, h]
@[simp] theorem index_bools (e : Nat) (ag : Bool) (b : Nat) (z : List Value) (l : List Bool) (i : Int) (h0 : 0 ≤ i) (h1 : i < l.length) :
    indexAddrA (some (e, ⟨ag, 1, b, z⟩)) (.t (bools l)) i = some (.roptr [.v (.bool (rdb l i))]) := by
  simp only [indexAddrA, bools, h0, if_true, boolRow_get (l := l) (i := i.toNat) (by omega)]
  rfl
theorem boolRow_set (l : List Bool) (i : Nat) (x : Bool) : (boolRow l).set i [.v (.bool x)] = boolRow (l.set i x) := by
  simp [boolRow, List.map_set]
theorem boolRow_append (l l' : List Bool) : boolRow l ++ boolRow l' = boolRow (l ++ l') := by simp [boolRow]
theorem boolRow_rep (n : Nat) (x : Bool) : List.replicate n [T.v (.bool x)] = boolRow (List.replicate n x) := by simp [boolRow]
@[simp] theorem boolRow_getN (l : List Bool) (i : Nat) (h : i < l.length) : (boolRow l)[i]? = some [.v (.bool (rdb l i))] := by
  rw [boolRow_get h]; simp [rdb]
@[simp] theorem boolRow_getI (l : List Bool) (i : Int) (h0 : 0 ≤ i) (h : i < l.length) : (boolRow l)[i.toNat]? = some [.v (.bool (rdb l i))] := by
  rw [boolRow_get (by omega)]
  rfl
attribute [simp] boolRow_set boolRow_append
theorem take_boolRow (l : List Bool) : (boolRow l).take l.length = boolRow l := by
  have := List.take_length (l := boolRow l)
  rwa [boolRow_length] at this
attribute [simp] take_boolRow
theorem make_bool (d : Nat) (e : Nat) (n : Int) (h0 : 0 ≤ n) (h1 : n ≤ 1099511627776) : makeA d (some (e, ⟨false, 1, 1, [.bool false]⟩)) (.t (.v (.int .i64 n))) (.t (.v (.int .i64 n))) = some (.row (d, 0) 1 0 n.toNat, [((d, 0), some (.row 1 (boolRow (List.replicate n.toNat false))))]) := by
  have h2 : n.toNat ≤ lim := by unfold lim; omega
  simp [makeA, TI.fine, plain, h0, h2, ← boolRow_rep]
attribute [simp] make_bool
/-! rows of words -/
def wordRow (ws : List (List Int)) : List (List T) := ws.map fun w => [ints w]
def words (ws : List (List Int)) : T := .sl (wordRow ws)
def wd (ws : List (List Int)) (i : Int) : List Int := ws.getD i.toNat []
@[simp] theorem wordRow_length (l : List (List Int)) : (wordRow l).length = l.length := by simp [wordRow]
@[simp] theorem lenA_words (k : Nat) (l : List (List Int)) : lenA (.sl k) (.t (words l)) = some l.length := by simp [lenA, words]
theorem wordRow_get {l : List (List Int)} {i : Nat} (h : i < l.length) : (wordRow l)[i]? = some [ints (l.getD i [])] := by
  simp [wordRow, h]
@[simp] theorem index_words (e : Nat) (ag : Bool) (b : Nat) (z : List Value) (l : List (List Int)) (i : Int) (h0 : 0 ≤ i) (h1 : i < l.length) :
    indexAddrA (some (e, ⟨ag, 1, b, z⟩)) (.t (words l)) i = some (.roptr [ints (wd l i)]) := by
  simp only [indexAddrA, words, h0, if_true, wordRow_get (l := l) (i := i.toNat) (by omega)]
  rfl
theorem wordRow_append (l l' : List (List Int)) : wordRow l ++ wordRow l' = wordRow (l ++ l') := by simp [wordRow]
@[simp] theorem wordRow_snoc (l : List (List Int)) (w : List Int) : wordRow l ++ [[ints w]] = wordRow (l ++ [w]) := wordRow_append l [w]
@[simp] theorem wordRow_getN (l : List (List Int)) (i : Nat) (h : i < l.length) : (wordRow l)[i]? = some [ints (wd l i)] := by
  rw [wordRow_get h]; simp [wd]
@[simp] theorem wordRow_getI (l : List (List Int)) (i : Int) (h0 : 0 ≤ i) (h : i < l.length) : (wordRow l)[i.toNat]? = some [ints (wd l i)] := by
  rw [wordRow_get (by omega)]
  rfl
theorem take_wordRow (l : List (List Int)) : (wordRow l).take l.length = wordRow l := by
  have := List.take_length (l := wordRow l)
  rwa [wordRow_length] at this
theorem wd_nat (ws : List (List Int)) (i : Nat) : wd ws i = ws.getD i [] := by simp [wd]
/-! parts of rows -/
theorem szOK_ints (l : List Int) : szOK 1 (intRow l) = true := by simp [szOK, intRow]
@[simp] theorem slice_from (l : List Int) (i : Int) (h0 : 0 ≤ i) (h1 : i ≤ l.length) : sliceO (.sl 1) (.t (ints l)) (some (some i)) none = some (.t (ints (l.drop i.toNat)), []) := by
  have e : ints l = .sl (intRow l) := rfl
  unfold sliceO
  simp only [Option.bind_some, id, Option.bind_none]
  unfold sliceA
  rw [e]
  dsimp only
  rw [if_pos ⟨szOK_ints l, by simpa using h0, by simpa using h1, by simp⟩]
  simp only [Option.map_some, Option.getD_some, Option.getD_none, intRow_length, window]
  have e2 : (intRow l).drop i.toNat = intRow (l.drop i.toNat) := by simp [intRow, List.map_drop]
  rw [e2, List.take_of_length_le (by simp; omega)]
  rfl
@[simp] theorem slice_to (l : List Int) (i : Int) (h0 : 0 ≤ i) (h1 : i ≤ l.length) : sliceO (.sl 1) (.t (ints l)) none (some (some i)) = some (.t (ints (l.take i.toNat)), []) := by
  have e : ints l = .sl (intRow l) := rfl
  unfold sliceO
  simp only [Option.bind_some, id, Option.bind_none]
  unfold sliceA
  rw [e]
  dsimp only
  rw [if_pos ⟨szOK_ints l, by simp, by simpa using h0, by simpa using h1⟩]
  simp only [Option.map_some, Option.getD_some, Option.getD_none, intRow_length, window]
  simp [intRow, List.map_take, ints]
end Cal

set_option linter.unusedSimpArgs false
set_option linter.unusedVariables false
namespace Cal
open Go Go.Proofs Auto AC
set_option maxRecDepth 100000
/-- The code of spec.l2Same. -/
def k146 : Code1 :=
 (.seq
 (.region [] false ([]) [
 ⟨some 4,Op.assign (Operand.const (Value.bool false)),none⟩])
 (.seq
 (.seq
 (.region [] false ([]) [
 ⟨some 6,Op.move (Operand.tmp 0),none⟩,
 ⟨some 7,Op.call {callee:=Callee.builtin Builtin.len,args:=#[Operand.tmp 6],argTypes:=#[22]},none⟩,
 ⟨some 8,Op.move (Operand.tmp 1),none⟩,
 ⟨some 9,Op.call {callee:=Callee.builtin Builtin.len,args:=#[Operand.tmp 8],argTypes:=#[22]},none⟩,
 ⟨some 10,Op.binOp BinOp.neq 3 (Operand.tmp 7) (Operand.tmp 9) 3,none⟩])
 (.cond (Operand.tmp 10)
 (.seq
 (.region [] false ([]) [
 ⟨some 4,Op.assign (Operand.const (Value.bool false)),none⟩])
 .ret)
 .skip))
 (.seq
 (.seq
 (.region [] false ([]) [
 ⟨some 5,Op.assign (Operand.const (Value.int IntKind.i64 0)),none⟩])
 (.block 0
 (.loop
 (.seq
 (.seq
 (.region [] false ([]) [
 ⟨some 11,Op.move (Operand.tmp 5),none⟩,
 ⟨some 12,Op.move (Operand.tmp 0),none⟩,
 ⟨some 13,Op.call {callee:=Callee.builtin Builtin.len,args:=#[Operand.tmp 12],argTypes:=#[22]},none⟩,
 ⟨some 14,Op.binOp BinOp.lss 3 (Operand.tmp 11) (Operand.tmp 13) 3,none⟩])
 (.cond (Operand.tmp 14)
 .skip
 (.exit 0)))
 (.seq
 (.block 1
 (.seq
 (.region [] true ([]) [
 ⟨some 17,Op.move (Operand.tmp 0),none⟩,
 ⟨some 18,Op.move (Operand.tmp 5),none⟩,
 ⟨some 19,Op.indexAddr 22 (Operand.tmp 17) (Operand.tmp 18),none⟩,
 ⟨some 20,Op.load 2 (Operand.tmp 19),none⟩,
 ⟨some 21,Op.move (Operand.tmp 1),none⟩,
 ⟨some 22,Op.move (Operand.tmp 5),none⟩,
 ⟨some 23,Op.indexAddr 22 (Operand.tmp 21) (Operand.tmp 22),none⟩,
 ⟨some 24,Op.load 2 (Operand.tmp 23),none⟩,
 ⟨some 25,Op.binOp BinOp.neq 2 (Operand.tmp 20) (Operand.tmp 24) 2,none⟩])
 (.cond (Operand.tmp 25)
 (.seq
 (.region [] false ([]) [
 ⟨some 4,Op.assign (Operand.const (Value.bool false)),none⟩])
 .ret)
 .skip)))
 (.region [] false ([]) [
 ⟨some 15,Op.move (Operand.tmp 5),none⟩,
 ⟨some 16,Op.binOp BinOp.add 3 (Operand.tmp 15) (Operand.const (Value.int IntKind.i64 1)) 3,none⟩,
 ⟨some 5,Op.assign (Operand.tmp 16),none⟩]))))))
 (.seq
 (.region [] false ([]) [
 ⟨some 4,Op.assign (Operand.const (Value.bool true)),none⟩])
 .ret))))
theorem same_c (a b : List Int) (ha : a.length ≤ 1048576) (hb : b.length ≤ 1048576) :
    CallsF Try.prog 146 [.val (ints a), .val (ints b)] (.t (.v (.bool (decide (a = b))))) [] := by
  refine callsF_of_wp1 (fn := Try.f146) (k := k146) (fun _ => []) mixed (by kernel_rfl) rfl (by kernel_rfl) (by kernel_rfl) (by kernel_rfl) rfl (by simp [Try.f146]) (by simp [Arg.like]) ?_
  generalize hst : St.enter [.val (ints a), .val (ints b)] = st0
  have t0 : st0.tm 0 = .t (ints a) := by rw [← hst]; rfl
  have t1 : st0.tm 1 = .t (ints b) := by rw [← hst]; rfl
  clear hst
  unfold k146
  repeat' (first
   | refine wp1_seq fun K hK => ?_
   | refine M_cons fun K hK => ?_
   | (refine hK _ ?_; clear hK K)
   | (refine hX _ ?_; clear hX hY X Y)
   | (refine hY _ ?_; clear hX hY X Y)
   | refine wp1_block ?_
   | refine wp1_region ?_
   | refine wp1_cond fun X Y hX hY => ?_
   | (refine condK_of (fun c => ?_) (fun c => ?_) <;> (try simp [-List.length_eq_zero_iff] at c))
   | simp (maxSteps := 4000000) (disch := omega) [t0, t1])
  · have : ¬ a = b := fun e => c (by rw [e])
    simp [Back, this]
  have hJ : a = b → ∀ s, K s := by
    rintro rfl s
    repeat' (first
     | refine wp1_seq fun K hK => ?_
     | refine M_cons fun K hK => ?_
     | (refine hK _ ?_; clear hK K)
     | refine wp1_region ?_
     | simp (maxSteps := 4000000) (disch := omega) [])
    all_goals try (simp [Back]; done)
  clear hK
  refine wp1_loop (fun n s => ∃ k : Nat, s.tm 0 = .t (ints a) ∧ s.tm 1 = .t (ints b) ∧ s.tm 5 = .t (.v (.int .i64 k)) ∧ k ≤ a.length ∧ n = a.length - k ∧ ∀ i < k, rd a i = rd b i) a.length ?_ ?_
  · exact ⟨0, by simp [t0, t1]⟩
  · rintro n s ⟨k, s0, s1, s5, hk, rfl, heq⟩ K' hK'
    repeat' (first
     | refine wp1_seq fun K hK => ?_
     | refine M_cons fun K hK => ?_
     | (refine hK _ ?_; clear hK K)
     | (refine hX _ ?_; clear hX hY X Y)
     | (refine hY _ ?_; clear hX hY X Y)
     | refine wp1_block ?_
     | refine wp1_region ?_
     | refine wp1_cond fun X Y hX hY => ?_
     | (refine condK_of (fun c => ?_) (fun c => ?_) <;> (try simp [-List.length_eq_zero_iff] at c))
     | simp (maxSteps := 4000000) (disch := omega) [s0, s1, s5])
    · have : ¬ a = b := fun e => c (by rw [e])
      simp [Back, this]
    · refine hK' (a.length - (k + 1)) _ (by omega) ⟨k + 1, ?_⟩
      simp [s0, s1, s5]
      exact ⟨by omega, below_succ heq c⟩
    · exact hJ (eq_of_rd (by omega) fun i hi => heq i (by omega)) _
/-! the order of words -/
theorem lex_first' : ∀ {a b : List Int} {j : Nat}, a.length = b.length → j < a.length → (∀ i < j, a.getD i 0 = b.getD i 0) → a.getD j 0 ≠ b.getD j 0 → Short.lex a b = decide (a.getD j 0 < b.getD j 0)
  | [], _, j, _, h, _, _ => by simp at h
  | _ :: _, [], _, h, _, _, _ => by simp at h
  | x :: a, y :: b, 0, _, _, _, hne => by
    simp at hne
    simp [Short.lex, hne]
  | x :: a, y :: b, j + 1, hl, hj, hall, hne => by
    have h0 := hall 0 (by omega)
    simp at h0
    have ih := lex_first' (a := a) (b := b) (j := j) (by simpa using hl) (by simpa using hj) (fun i hi => by simpa using hall (i + 1) (by omega)) (by simpa using hne)
    simp only [Short.lex, h0, if_true]
    rw [ih]
    simp
theorem lex_first {a b : List Int} (h : a.length = b.length) {j : Nat} (hj : j < a.length) (hall : ∀ i < j, rd a i = rd b i) (hne : rd a j ≠ rd b j) : Short.lex a b = decide (rd a j < rd b j) := by
  rw [rd_getD, rd_getD] at hne ⊢
  exact lex_first' h hj (fun i hi => by have := hall i hi; rwa [rd_getD, rd_getD] at this) hne
/-- The code of spec.l3Before. -/
def k145 : Code1 :=
 (.seq
 (.region [] false ([]) [
 ⟨some 4,Op.assign (Operand.const (Value.bool false)),none⟩])
 (.seq
 (.seq
 (.region [] false ([]) [
 ⟨some 6,Op.move (Operand.tmp 0),none⟩,
 ⟨some 7,Op.call {callee:=Callee.builtin Builtin.len,args:=#[Operand.tmp 6],argTypes:=#[22]},none⟩,
 ⟨some 8,Op.move (Operand.tmp 1),none⟩,
 ⟨some 9,Op.call {callee:=Callee.builtin Builtin.len,args:=#[Operand.tmp 8],argTypes:=#[22]},none⟩,
 ⟨some 10,Op.binOp BinOp.neq 3 (Operand.tmp 7) (Operand.tmp 9) 3,none⟩])
 (.cond (Operand.tmp 10)
 (.seq
 (.region [] false ([]) [
 ⟨some 11,Op.move (Operand.tmp 0),none⟩,
 ⟨some 12,Op.call {callee:=Callee.builtin Builtin.len,args:=#[Operand.tmp 11],argTypes:=#[22]},none⟩,
 ⟨some 13,Op.move (Operand.tmp 1),none⟩,
 ⟨some 14,Op.call {callee:=Callee.builtin Builtin.len,args:=#[Operand.tmp 13],argTypes:=#[22]},none⟩,
 ⟨some 15,Op.binOp BinOp.lss 3 (Operand.tmp 12) (Operand.tmp 14) 3,none⟩,
 ⟨some 4,Op.assign (Operand.tmp 15),none⟩])
 .ret)
 .skip))
 (.seq
 (.seq
 (.region [] false ([]) [
 ⟨some 5,Op.assign (Operand.const (Value.int IntKind.i64 0)),none⟩])
 (.block 0
 (.loop
 (.seq
 (.seq
 (.region [] false ([]) [
 ⟨some 16,Op.move (Operand.tmp 5),none⟩,
 ⟨some 17,Op.move (Operand.tmp 0),none⟩,
 ⟨some 18,Op.call {callee:=Callee.builtin Builtin.len,args:=#[Operand.tmp 17],argTypes:=#[22]},none⟩,
 ⟨some 19,Op.binOp BinOp.lss 3 (Operand.tmp 16) (Operand.tmp 18) 3,none⟩])
 (.cond (Operand.tmp 19)
 .skip
 (.exit 0)))
 (.seq
 (.block 1
 (.seq
 (.region [] true ([]) [
 ⟨some 22,Op.move (Operand.tmp 0),none⟩,
 ⟨some 23,Op.move (Operand.tmp 5),none⟩,
 ⟨some 24,Op.indexAddr 22 (Operand.tmp 22) (Operand.tmp 23),none⟩,
 ⟨some 25,Op.load 2 (Operand.tmp 24),none⟩,
 ⟨some 26,Op.move (Operand.tmp 1),none⟩,
 ⟨some 27,Op.move (Operand.tmp 5),none⟩,
 ⟨some 28,Op.indexAddr 22 (Operand.tmp 26) (Operand.tmp 27),none⟩,
 ⟨some 29,Op.load 2 (Operand.tmp 28),none⟩,
 ⟨some 30,Op.binOp BinOp.neq 2 (Operand.tmp 25) (Operand.tmp 29) 2,none⟩])
 (.cond (Operand.tmp 30)
 (.seq
 (.region [] true ([]) [
 ⟨some 31,Op.move (Operand.tmp 0),none⟩,
 ⟨some 32,Op.move (Operand.tmp 5),none⟩,
 ⟨some 33,Op.indexAddr 22 (Operand.tmp 31) (Operand.tmp 32),none⟩,
 ⟨some 34,Op.load 2 (Operand.tmp 33),none⟩,
 ⟨some 35,Op.move (Operand.tmp 1),none⟩,
 ⟨some 36,Op.move (Operand.tmp 5),none⟩,
 ⟨some 37,Op.indexAddr 22 (Operand.tmp 35) (Operand.tmp 36),none⟩,
 ⟨some 38,Op.load 2 (Operand.tmp 37),none⟩,
 ⟨some 39,Op.binOp BinOp.lss 2 (Operand.tmp 34) (Operand.tmp 38) 2,none⟩,
 ⟨some 4,Op.assign (Operand.tmp 39),none⟩])
 .ret)
 .skip)))
 (.region [] false ([]) [
 ⟨some 20,Op.move (Operand.tmp 5),none⟩,
 ⟨some 21,Op.binOp BinOp.add 3 (Operand.tmp 20) (Operand.const (Value.int IntKind.i64 1)) 3,none⟩,
 ⟨some 5,Op.assign (Operand.tmp 21),none⟩]))))))
 (.seq
 (.region [] false ([]) [
 ⟨some 4,Op.assign (Operand.const (Value.bool false)),none⟩])
 .ret))))
theorem before_c (a b : List Int) (ha : a.length ≤ 1048576) (hb : b.length ≤ 1048576) :
    CallsF Try.prog 145 [.val (ints a), .val (ints b)] (.t (.v (.bool (Short.before a b)))) [] := by
  refine callsF_of_wp1 (fn := Try.f145) (k := k145) (fun _ => []) mixed (by kernel_rfl) rfl (by kernel_rfl) (by kernel_rfl) (by kernel_rfl) rfl (by simp [Try.f145]) (by simp [Arg.like]) ?_
  generalize hst : St.enter [.val (ints a), .val (ints b)] = st0
  have t0 : st0.tm 0 = .t (ints a) := by rw [← hst]; rfl
  have t1 : st0.tm 1 = .t (ints b) := by rw [← hst]; rfl
  clear hst
  unfold k145
  by_cases hl : a.length = b.length
  · have hb1 : Short.before a b = Short.lex a b := by unfold Short.before; rw [if_pos hl]
    repeat' (first
     | refine wp1_seq fun K hK => ?_
     | refine M_cons fun K hK => ?_
     | (refine hK _ ?_; clear hK K)
     | (refine hY _ ?_; clear hX hY X Y)
     | refine wp1_block ?_
     | refine wp1_region ?_
     | refine wp1_cond fun X Y hX hY => ?_
     | (refine condK_of (fun c => ?_) (fun c => ?_) <;> (try simp [-List.length_eq_zero_iff] at c))
     | simp (maxSteps := 4000000) (disch := omega) [t0, t1, hl])
    have hJ : a = b → ∀ s, K s := by
      rintro rfl s
      have : Short.before a a = false := Short.before_irrefl a
      repeat' (first
       | refine wp1_seq fun K hK => ?_
       | refine M_cons fun K hK => ?_
       | (refine hK _ ?_; clear hK K)
       | refine wp1_region ?_
       | simp (maxSteps := 4000000) (disch := omega) [this])
      all_goals try (simp [this, Back]; done)
    clear hK
    refine wp1_loop (fun n s => ∃ k : Nat, s.tm 0 = .t (ints a) ∧ s.tm 1 = .t (ints b) ∧ s.tm 5 = .t (.v (.int .i64 k)) ∧ k ≤ a.length ∧ n = a.length - k ∧ ∀ i < k, rd a i = rd b i) a.length ?_ ?_
    · exact ⟨0, by simp [t0, t1]⟩
    · rintro n s ⟨k, s0, s1, s5, hk, rfl, heq⟩ K' hK'
      by_cases hne : k < a.length ∧ rd a k ≠ rd b k
      · have := lex_first hl hne.1 heq hne.2
        rw [← hb1] at this
        repeat' (first
         | refine wp1_seq fun K hK => ?_
         | refine M_cons fun K hK => ?_
         | (refine hK _ ?_; clear hK K)
         | (refine hX _ ?_; clear hX hY X Y)
         | (refine hY _ ?_; clear hX hY X Y)
         | refine wp1_block ?_
         | refine wp1_region ?_
         | refine wp1_cond fun X Y hX hY => ?_
         | (refine condK_of (fun c => ?_) (fun c => ?_) <;> (try simp [-List.length_eq_zero_iff] at c))
         | simp (maxSteps := 4000000) (disch := omega) [s0, s1, s5, this])
        all_goals try (simp [s0, s1, s5, this, Back]; done)
        all_goals first | omega | (simp [Back, this]; done) | skip
      · repeat' (first
       | refine wp1_seq fun K hK => ?_
       | refine M_cons fun K hK => ?_
       | (refine hK _ ?_; clear hK K)
       | (refine hX _ ?_; clear hX hY X Y)
       | (refine hY _ ?_; clear hX hY X Y)
       | refine wp1_block ?_
       | refine wp1_region ?_
       | refine wp1_cond fun X Y hX hY => ?_
       | (refine condK_of (fun c => ?_) (fun c => ?_) <;> (try simp [-List.length_eq_zero_iff] at c))
       | simp (maxSteps := 4000000) (disch := omega) [s0, s1, s5])
        all_goals first
          | omega
          | (refine hK' (a.length - (k + 1)) _ (by omega) ⟨k + 1, ?_⟩
             simp [s0, s1, s5]
             exact ⟨by omega, below_succ heq c⟩)
          | exact hJ (eq_of_rd (by omega) fun i hi => heq i (by omega)) _
  · have hb1 : Short.before a b = decide (a.length < b.length) := by unfold Short.before; rw [if_neg hl]
    repeat' (first
     | refine wp1_seq fun K hK => ?_
     | refine M_cons fun K hK => ?_
     | (refine hK _ ?_; clear hK K)
     | (refine hX _ ?_; clear hX hY X Y)
     | (refine hY _ ?_; clear hX hY X Y)
     | refine wp1_block ?_
     | refine wp1_region ?_
     | refine wp1_cond fun X Y hX hY => ?_
     | (refine condK_of (fun c => ?_) (fun c => ?_) <;> (try simp [-List.length_eq_zero_iff] at c))
     | simp (maxSteps := 4000000) (disch := omega) [t0, t1, hl, hb1])
    all_goals try (simp [t0, t1, hl, hb1, Back]; done)
    all_goals omega
end Cal

set_option linter.unusedSimpArgs false
set_option linter.unusedVariables false
namespace Cal
open Go Go.Proofs Auto AC
set_option maxRecDepth 100000
/-! places among rising words -/
def place : List (List Int) → List Int → Nat
  | [], _ => 0
  | x :: xs, w => if Short.before x w = true then place xs w + 1 else 0
theorem place_eq : ∀ {ws : List (List Int)} {w : List Int} {p : Nat}, p ≤ ws.length → (∀ i < p, Short.before (ws.getD i []) w = true) → (p < ws.length → Short.before (ws.getD p []) w = false) → place ws w = p
  | [], w, p, hp, _, _ => by simp at hp; subst hp; rfl
  | x :: xs, w, 0, _, _, h => by
    have := h (by simp)
    simp at this
    simp [place, this]
  | x :: xs, w, p + 1, hp, h1, h2 => by
    have h0 := h1 0 (by omega)
    simp only [List.getD_cons_zero] at h0
    simp only [place, h0, if_true]
    rw [place_eq (by simpa using hp) (fun i hi => by have := h1 (i + 1) (by omega); rwa [List.getD_cons_succ] at this) (fun hlt => by have := h2 (by simpa using hlt); rwa [List.getD_cons_succ] at this)]
theorem place_le : ∀ (ws : List (List Int)) (w : List Int), place ws w ≤ ws.length
  | [], _ => Nat.le_refl _
  | x :: xs, w => by
    unfold place
    split
    · simp [place_le xs w]
    · omega
def stI (ws : List (List Int)) (w : List Int) : Int := if place ws w < ws.length ∧ ws.getD (place ws w) [] = w then place ws w else -1
theorem stI_at {ws : List (List Int)} (h : Short.Rising ws) {i : Nat} (hi : i < ws.length) {w : List Int} (hw : ws.getD i [] = w) : stI ws w = i := by
  have g : ∀ {j : Nat} (hj : j < ws.length), ws.getD j [] = ws[j] := fun {j} hj => by rw [List.getD_eq_getElem?_getD, List.getElem?_eq_getElem hj]; rfl
  have e : place ws w = i := place_eq (by omega) (fun j hj => by
      rw [g (by omega), ← hw, g hi]
      exact h.lt hj hi) (fun _ => by rw [hw]; exact Short.before_irrefl w)
  unfold stI
  rw [e, if_pos ⟨hi, hw⟩]
theorem stI_not {ws : List (List Int)} {w : List Int} (hw : w ∉ ws) : stI ws w = -1 := by
  unfold stI
  rw [if_neg]
  rintro ⟨h1, h2⟩
  exact hw (h2 ▸ mem_getD h1)
theorem stI_mem {ws : List (List Int)} (h : Short.Rising ws) {w : List Int} (hw : w ∈ ws) : 0 ≤ stI ws w ∧ stI ws w < ws.length ∧ ws.getD (stI ws w).toNat [] = w := by
  obtain ⟨i, hi, he⟩ := List.mem_iff_getElem.1 hw
  have hg : ws.getD i [] = w := by rw [List.getD_eq_getElem?_getD, List.getElem?_eq_getElem hi]; exact he
  rw [stI_at h hi hg]
  exact ⟨by omega, by omega, by simpa using hg⟩
/-- Words of a length that the calculus takes. -/
structure Wds (ws : List (List Int)) : Prop where
  rise : Short.Rising ws
  len : ws.length ≤ 100000
  each : ∀ i : Nat, i < ws.length → (ws.getD i []).length ≤ 100000
/-- The code of spec.l3Place. -/
def k152 : Code1 :=
 (.seq
 (.region [] false ([]) [
 ⟨some 4,Op.assign (Operand.const (Value.int IntKind.i64 0)),none⟩])
 (.seq
 (.region [] false ([]) [
 ⟨some 5,Op.assign (Operand.const (Value.int IntKind.i64 0)),none⟩])
 (.seq
 (.region [] false ([]) [
 ⟨some 8,Op.move (Operand.tmp 0),none⟩,
 ⟨some 9,Op.call {callee:=Callee.builtin Builtin.len,args:=#[Operand.tmp 8],argTypes:=#[135]},none⟩,
 ⟨some 6,Op.assign (Operand.tmp 9),none⟩])
 (.seq
 (.block 0
 (.loop
 (.seq
 (.seq
 (.region [] false ([]) [
 ⟨some 10,Op.move (Operand.tmp 5),none⟩,
 ⟨some 11,Op.move (Operand.tmp 6),none⟩,
 ⟨some 12,Op.binOp BinOp.lss 3 (Operand.tmp 10) (Operand.tmp 11) 3,none⟩])
 (.cond (Operand.tmp 12)
 .skip
 (.exit 0)))
 (.block 1
 (.seq
 (.region [] false ([]) [
 ⟨some 13,Op.move (Operand.tmp 5),none⟩,
 ⟨some 14,Op.move (Operand.tmp 6),none⟩,
 ⟨some 15,Op.binOp BinOp.add 3 (Operand.tmp 13) (Operand.tmp 14) 3,none⟩,
 ⟨some 16,Op.binOp BinOp.quo 3 (Operand.tmp 15) (Operand.const (Value.int IntKind.i64 2)) 3,none⟩,
 ⟨some 7,Op.assign (Operand.tmp 16),none⟩])
 (.seq
 (.region [23] false ([]) [
 ⟨some 17,Op.move (Operand.tmp 0),none⟩,
 ⟨some 18,Op.move (Operand.tmp 7),none⟩,
 ⟨some 19,Op.indexAddr 135 (Operand.tmp 17) (Operand.tmp 18),none⟩,
 ⟨some 20,Op.fieldAddr 138 (Operand.tmp 19) 0,none⟩,
 ⟨some 21,Op.load 22 (Operand.tmp 20),none⟩,
 ⟨some 22,Op.move (Operand.tmp 1),none⟩,
 ⟨some 23,Op.call {callee:=Callee.value (Operand.func 145),args:=#[Operand.tmp 21,Operand.tmp 22],argTypes:=#[22,22]},none⟩])
 (.cond (Operand.tmp 23)
 (.region [] false ([]) [
 ⟨some 24,Op.move (Operand.tmp 7),none⟩,
 ⟨some 25,Op.binOp BinOp.add 3 (Operand.tmp 24) (Operand.const (Value.int IntKind.i64 1)) 3,none⟩,
 ⟨some 5,Op.assign (Operand.tmp 25),none⟩])
 (.region [] false ([]) [
 ⟨some 26,Op.move (Operand.tmp 7),none⟩,
 ⟨some 6,Op.assign (Operand.tmp 26),none⟩]))))))))
 (.seq
 (.region [] false ([]) [
 ⟨some 27,Op.move (Operand.tmp 5),none⟩,
 ⟨some 4,Op.assign (Operand.tmp 27),none⟩])
 .ret)))))
set_option maxHeartbeats 1000000 in
theorem place_c {ws : List (List Int)} {w : List Int} (hW : Wds ws) (hw : w.length ≤ 1048576) :
    CallsF Try.prog 152 [.val (words ws), .val (ints w)] (.t (.v (.int .i64 (place ws w)))) [] := by
  have l1 := hW.len
  refine callsF_of_wp2 (fn := Try.f152) (k := k152) (fun _ => []) mixed (by kernel_rfl) rfl (by kernel_rfl) (by kernel_rfl) (by kernel_rfl) rfl (by simp [Try.f152]) (by simp [Arg.like]) ?_
  generalize hst : St.enter [.val (words ws), .val (ints w)] = st0
  have t0 : st0.tm 0 = .t (words ws) := by rw [← hst]; rfl
  have t1 : st0.tm 1 = .t (ints w) := by rw [← hst]; rfl
  clear hst
  unfold k152
  repeat' (first
   | refine wp2_seq fun K hK => ?_
   | refine M_cons fun K hK => ?_
   | (refine hK _ ?_; clear hK K)
   | refine wp2_block ?_
   | refine wp2_region ?_
   | simp (maxSteps := 4000000) (disch := omega) [t0, t1])
  have hJ : ∀ s, s.tm 5 = .t (.v (.int .i64 (place ws w))) → K s := by
    intro s s5
    repeat' (first
     | refine wp2_seq fun K hK => ?_
     | refine M_cons fun K hK => ?_
     | (refine hK _ ?_; clear hK K)
     | refine wp2_region ?_
     | simp (maxSteps := 4000000) (disch := omega) [s5])
    all_goals try (simp [s5, Back]; done)
  clear hK
  have mono : ∀ i j : Nat, i ≤ j → j < ws.length → Short.before (ws.getD j []) w = true → Short.before (ws.getD i []) w = true := fun i j hij hj h => by
    rcases Nat.lt_or_eq_of_le hij with hlt | rfl
    · have g : ∀ {j : Nat} (hj : j < ws.length), ws.getD j [] = ws[j] := fun {j} hj => by rw [List.getD_eq_getElem?_getD, List.getElem?_eq_getElem hj]; rfl
      rw [g (by omega)]
      rw [g hj] at h
      exact Short.before_trans (hW.rise.lt hlt hj) h
    · exact h
  refine wp2_loop (fun n s => ∃ lo hi : Nat, s.tm 0 = .t (words ws) ∧ s.tm 1 = .t (ints w) ∧ s.tm 5 = .t (.v (.int .i64 lo)) ∧ s.tm 6 = .t (.v (.int .i64 hi)) ∧ lo ≤ hi ∧ hi ≤ ws.length ∧ n = hi - lo ∧ (∀ i < lo, Short.before (ws.getD i []) w = true) ∧ ∀ i : Nat, hi ≤ i → i < ws.length → Short.before (ws.getD i []) w = false) ws.length ?_ ?_
  · refine ⟨0, ws.length, ?_⟩
    simp [t0, t1]
    intro i h1 h2
    omega
  · rintro n s ⟨lo, hi, s0, s1, s5, s6, hl, hh, rfl, ha, hb⟩ K' hK'
    by_cases hlt : lo < hi
    · have e1 : ((lo : Int) + hi).tdiv 2 = ((lo + hi) / 2 : Nat) := by
        rw [Int.tdiv_eq_ediv_of_nonneg (by omega)]
        omega
      generalize hm : (lo + hi) / 2 = mid at e1
      have hm1 : lo ≤ mid ∧ mid < hi := by omega
      have e3 : wd ws mid = ws.getD mid [] := wd_nat ws mid
      have e2 := hW.each mid (by omega)
      rw [← e3] at e2
      cases hbm : Short.before (wd ws mid) w with
      | true =>
        repeat' (first
         | refine wp2_seq fun K hK => ?_
         | refine M_cons fun K hK => ?_
         | (refine hK _ ?_; clear hK K)
         | (refine hX _ ?_; clear hX hY X Y)
         | (refine hY _ ?_; clear hX hY X Y)
         | refine wp2_block ?_
         | refine wp2_region ?_
         | refine wp2_cond fun X Y hX hY => ?_
         | (refine condK_of (fun c => ?_) (fun c => ?_) <;> (try simp [-List.length_eq_zero_iff] at c))
         | (refine callT_fl (before_c _ _ ?_ ?_) (by simp [St.args, St.arg, s0, s1, s5, s6, e1, hbm] <;> first | rfl | ((repeat' first | rfl | apply And.intro); first | done | fail)) ?_; omega; omega)
         | simp (maxSteps := 4000000) (disch := omega) [s0, s1, s5, s6, e1, hbm])
        all_goals first
          | omega
          | (refine hK' (hi - (mid + 1)) _ (by omega) ⟨mid + 1, hi, ?_⟩
             simp [s0, s1, s6]
             refine ⟨by omega, hh, fun i hi' => ?_, hb⟩
             have := mono i mid (by omega) (by omega) (by rw [← e3]; exact hbm)
             simpa using this)
      | false =>
        repeat' (first
         | refine wp2_seq fun K hK => ?_
         | refine M_cons fun K hK => ?_
         | (refine hK _ ?_; clear hK K)
         | (refine hX _ ?_; clear hX hY X Y)
         | (refine hY _ ?_; clear hX hY X Y)
         | refine wp2_block ?_
         | refine wp2_region ?_
         | refine wp2_cond fun X Y hX hY => ?_
         | (refine condK_of (fun c => ?_) (fun c => ?_) <;> (try simp [-List.length_eq_zero_iff] at c))
         | (refine callT_fl (before_c _ _ ?_ ?_) (by simp [St.args, St.arg, s0, s1, s5, s6, e1, hbm] <;> first | rfl | ((repeat' first | rfl | apply And.intro); first | done | fail)) ?_; omega; omega)
         | simp (maxSteps := 4000000) (disch := omega) [s0, s1, s5, s6, e1, hbm])
        all_goals first
          | omega
          | (refine hK' (mid - lo) _ (by omega) ⟨lo, mid, ?_⟩
             simp [s0, s1, s5]
             refine ⟨by omega, by omega, ha, fun i h1 h2 => ?_⟩
             cases hc : Short.before (ws.getD i []) w with
             | false => simpa using hc
             | true => exact absurd (mono mid i h1 h2 hc) (by rw [← e3, hbm]; simp))
    · have hlh : lo = hi := by omega
      subst hlh
      have e := place_eq hh ha (fun h => hb lo (Nat.le_refl _) h)
      repeat' (first
       | refine wp2_seq fun K hK => ?_
       | refine M_cons fun K hK => ?_
       | (refine hK _ ?_; clear hK K)
       | (refine hY _ ?_; clear hX hY X Y)
       | refine wp2_region ?_
       | refine wp2_cond fun X Y hX hY => ?_
       | (refine condK_of (fun c => ?_) (fun c => ?_) <;> (try simp [-List.length_eq_zero_iff] at c))
       | simp (maxSteps := 4000000) (disch := omega) [s0, s1, s5, s6])
      all_goals first
        | omega
        | exact hJ _ (by simp [s5, e])
/-- The code of spec.l3State. -/
def k92 : Code1 :=
 (.seq
 (.region [] false ([]) [
 ⟨some 4,Op.assign (Operand.const (Value.int IntKind.i64 0)),none⟩])
 (.seq
 (.region [8] false ([]) [
 ⟨some 6,Op.move (Operand.tmp 0),none⟩,
 ⟨some 7,Op.move (Operand.tmp 1),none⟩,
 ⟨some 8,Op.call {callee:=Callee.value (Operand.func 152),args:=#[Operand.tmp 6,Operand.tmp 7],argTypes:=#[135,22]},none⟩,
 ⟨some 5,Op.assign (Operand.tmp 8),none⟩])
 (.seq
 (.seq
 (.region [20] false ([]) [
 ⟨some 9,Op.move (Operand.tmp 5),none⟩,
 ⟨some 10,Op.move (Operand.tmp 0),none⟩,
 ⟨some 11,Op.call {callee:=Callee.builtin Builtin.len,args:=#[Operand.tmp 10],argTypes:=#[135]},none⟩,
 ⟨some 12,Op.binOp BinOp.lss 3 (Operand.tmp 9) (Operand.tmp 11) 3,none⟩,
 ⟨some 13,Op.move (Operand.tmp 12),none⟩,
 ⟨some 14,Op.move (Operand.tmp 0),some (13,true)⟩,
 ⟨some 15,Op.move (Operand.tmp 5),some (13,true)⟩,
 ⟨some 16,Op.indexAddr 135 (Operand.tmp 14) (Operand.tmp 15),some (13,true)⟩,
 ⟨some 17,Op.fieldAddr 138 (Operand.tmp 16) 0,some (13,true)⟩,
 ⟨some 18,Op.load 22 (Operand.tmp 17),some (13,true)⟩,
 ⟨some 19,Op.move (Operand.tmp 1),some (13,true)⟩,
 ⟨some 20,Op.call {callee:=Callee.value (Operand.func 146),args:=#[Operand.tmp 18,Operand.tmp 19],argTypes:=#[22,22]},some (13,true)⟩,
 ⟨some 21,Op.pick (Operand.tmp 13) (Operand.tmp 20) (Operand.const (Value.bool false)),none⟩])
 (.cond (Operand.tmp 21)
 (.seq
 (.region [] false ([]) [
 ⟨some 22,Op.move (Operand.tmp 5),none⟩,
 ⟨some 4,Op.assign (Operand.tmp 22),none⟩])
 .ret)
 .skip))
 (.seq
 (.region [] false ([]) [
 ⟨some 4,Op.assign (Operand.const (Value.int IntKind.i64 (-1))),none⟩])
 .ret))))
theorem state_c {ws : List (List Int)} {w : List Int} (hW : Wds ws) (hw : w.length ≤ 1048576) :
    CallsF Try.prog 92 [.val (words ws), .val (ints w)] (.t (.v (.int .i64 (stI ws w)))) [] := by
  have l1 := hW.len
  have l2 := place_le ws w
  refine callsF_of_wp2 (fn := Try.f92) (k := k92) (fun _ => []) mixed (by kernel_rfl) rfl (by kernel_rfl) (by kernel_rfl) (by kernel_rfl) rfl (by simp [Try.f92]) (by simp [Arg.like]) ?_
  generalize hst : St.enter [.val (words ws), .val (ints w)] = st0
  have t0 : st0.tm 0 = .t (words ws) := by rw [← hst]; rfl
  have t1 : st0.tm 1 = .t (ints w) := by rw [← hst]; rfl
  clear hst
  unfold k92
  have e3 : wd ws (place ws w) = ws.getD (place ws w) [] := wd_nat ws _
  by_cases h1 : place ws w < ws.length
  · have e2 := hW.each _ h1
    rw [← e3] at e2
    by_cases h2 : wd ws (place ws w) = w
    · have h3 : stI ws w = place ws w := by unfold stI; rw [if_pos ⟨h1, e3 ▸ h2⟩]
      repeat' (first
       | refine wp2_seq fun K hK => ?_
       | refine M_cons fun K hK => ?_
       | (refine hK _ ?_; clear hK K)
       | (refine hX _ ?_; clear hX hY X Y)
       | refine wp2_region ?_
       | refine wp2_cond fun X Y hX hY => ?_
       | (refine condK_of (fun c => ?_) (fun c => ?_) <;> (try simp [-List.length_eq_zero_iff] at c))
       | (refine callT_fl (place_c hW hw) (by simp [St.args, St.arg, t0, t1, h1, h3, h2] <;> first | rfl | ((repeat' first | rfl | apply And.intro); first | done | fail)) ?_)
       | (refine callT_fl (same_c _ _ ?_ ?_) (by simp [St.args, St.arg, t0, t1, h1, h3, h2] <;> first | rfl | ((repeat' first | rfl | apply And.intro); first | done | fail)) ?_; omega; omega)
       | simp (maxSteps := 4000000) (disch := omega) [t0, t1, h1, h3, h2])
      all_goals try (simp [t0, t1, h1, h3, h2, Back]; done)
      all_goals omega
    · have h3 : stI ws w = -1 := by unfold stI; rw [if_neg (fun h => h2 (e3 ▸ h.2))]
      repeat' (first
       | refine wp2_seq fun K hK => ?_
       | refine M_cons fun K hK => ?_
       | (refine hK _ ?_; clear hK K)
       | (refine hY _ ?_; clear hX hY X Y)
       | refine wp2_region ?_
       | refine wp2_cond fun X Y hX hY => ?_
       | (refine condK_of (fun c => ?_) (fun c => ?_) <;> (try simp [-List.length_eq_zero_iff] at c))
       | (refine callT_fl (place_c hW hw) (by simp [St.args, St.arg, t0, t1, h1, h3, h2] <;> first | rfl | ((repeat' first | rfl | apply And.intro); first | done | fail)) ?_)
       | (refine callT_fl (same_c _ _ ?_ ?_) (by simp [St.args, St.arg, t0, t1, h1, h3, h2] <;> first | rfl | ((repeat' first | rfl | apply And.intro); first | done | fail)) ?_; omega; omega)
       | simp (maxSteps := 4000000) (disch := omega) [t0, t1, h1, h3, h2])
      all_goals try (simp [t0, t1, h1, h3, h2, Back]; done)
      all_goals omega
  · have h3 : stI ws w = -1 := by unfold stI; rw [if_neg (fun h => h1 h.1)]
    repeat' (first
     | refine wp2_seq fun K hK => ?_
     | refine M_cons fun K hK => ?_
     | (refine hK _ ?_; clear hK K)
     | (refine hY _ ?_; clear hX hY X Y)
     | refine wp2_region ?_
     | refine wp2_cond fun X Y hX hY => ?_
     | (refine condK_of (fun c => ?_) (fun c => ?_) <;> (try simp [-List.length_eq_zero_iff] at c))
     | (refine callT_fl (place_c hW hw) (by simp [St.args, St.arg, t0, t1, h1, h3] <;> first | rfl | ((repeat' first | rfl | apply And.intro); first | done | fail)) ?_)
     | simp (maxSteps := 4000000) (disch := omega) [t0, t1, h1, h3])
    all_goals try (simp [t0, t1, h1, h3, Back]; done)
    all_goals omega
/-- The code of spec.l3Longest. -/
def k93 : Code1 :=
 (.seq
 (.region [] false ([]) [
 ⟨some 6,Op.assign (Operand.const (Value.int IntKind.i64 0)),none⟩])
 (.seq
 (.seq
 (.region [] false ([]) [
 ⟨some 9,Op.move (Operand.tmp 2),none⟩,
 ⟨some 7,Op.assign (Operand.tmp 9),none⟩])
 (.block 0
 (.loop
 (.seq
 (.seq
 (.region [] false ([]) [
 ⟨some 10,Op.move (Operand.tmp 7),none⟩,
 ⟨some 11,Op.move (Operand.tmp 1),none⟩,
 ⟨some 12,Op.call {callee:=Callee.builtin Builtin.len,args:=#[Operand.tmp 11],argTypes:=#[22]},none⟩,
 ⟨some 13,Op.binOp BinOp.leq 3 (Operand.tmp 10) (Operand.tmp 12) 3,none⟩])
 (.cond (Operand.tmp 13)
 .skip
 (.exit 0)))
 (.seq
 (.block 1
 (.seq
 (.region [20] false ([]) [
 ⟨some 16,Op.move (Operand.tmp 0),none⟩,
 ⟨some 17,Op.move (Operand.tmp 1),none⟩,
 ⟨some 18,Op.move (Operand.tmp 7),none⟩,
 ⟨some 19,Op.slice 22 (Operand.tmp 17) (some (Operand.tmp 18)) none none,none⟩,
 ⟨some 20,Op.call {callee:=Callee.value (Operand.func 92),args:=#[Operand.tmp 16,Operand.tmp 19],argTypes:=#[135,22]},none⟩,
 ⟨some 8,Op.assign (Operand.tmp 20),none⟩])
 (.seq
 (.region [] false ([]) [
 ⟨some 21,Op.move (Operand.tmp 8),none⟩,
 ⟨some 22,Op.binOp BinOp.geq 2 (Operand.tmp 21) (Operand.const (Value.int IntKind.i64 0)) 2,none⟩])
 (.cond (Operand.tmp 22)
 (.seq
 (.region [] false ([]) [
 ⟨some 23,Op.move (Operand.tmp 8),none⟩,
 ⟨some 6,Op.assign (Operand.tmp 23),none⟩])
 .ret)
 .skip))))
 (.region [] false ([]) [
 ⟨some 14,Op.move (Operand.tmp 7),none⟩,
 ⟨some 15,Op.binOp BinOp.add 3 (Operand.tmp 14) (Operand.const (Value.int IntKind.i64 1)) 3,none⟩,
 ⟨some 7,Op.assign (Operand.tmp 15),none⟩]))))))
 (.seq
 (.region [] false ([]) [
 ⟨some 6,Op.assign (Operand.const (Value.int IntKind.i64 (-1))),none⟩])
 .ret)))
theorem longest_c {ws : List (List Int)} {l : List Int} {k : Nat} (hW : Wds ws) (h0 : [] ∈ ws) (hl : l.length ≤ 1048576) (hk : k ≤ l.length) :
    CallsF Try.prog 93 [.val (words ws), .val (ints l), .val (.v (.int .i64 k))] (.t (.v (.int .i64 (stI ws (LS (isWord ws) (l.drop k)))))) [] := by
  refine callsF_of_wp2 (fn := Try.f93) (k := k93) (fun _ => []) mixed (by kernel_rfl) rfl (by kernel_rfl) (by kernel_rfl) (by kernel_rfl) rfl (by simp [Try.f93]) (by simp [Arg.like]) ?_
  generalize hst : St.enter [.val (words ws), .val (ints l), .val (.v (.int .i64 k))] = st0
  have t0 : st0.tm 0 = .t (words ws) := by rw [← hst]; rfl
  have t1 : st0.tm 1 = .t (ints l) := by rw [← hst]; rfl
  have t2 : st0.tm 2 = .t (.v (.int .i64 k)) := by rw [← hst]; rfl
  clear hst
  unfold k93
  repeat' (first
   | refine wp2_seq fun K hK => ?_
   | refine M_cons fun K hK => ?_
   | (refine hK _ ?_; clear hK K)
   | refine wp2_block ?_
   | refine wp2_region ?_
   | simp (maxSteps := 4000000) (disch := omega) [t0, t1, t2])
  clear hK
  refine wp2_loop (fun n s => ∃ i : Nat, s.tm 0 = .t (words ws) ∧ s.tm 1 = .t (ints l) ∧ s.tm 7 = .t (.v (.int .i64 i)) ∧ i ≤ l.length ∧ n = l.length - i ∧ LS (isWord ws) (l.drop k) = LS (isWord ws) (l.drop i)) (l.length - k) ?_ ?_
  · exact ⟨k, by simp [t0, t1]; exact hk⟩
  · rintro n s ⟨i, s0, s1, s7, hi, rfl, hLS⟩ K' hK'
    have e1 : (l.drop i).length ≤ 1048576 := by rw [List.length_drop]; omega
    by_cases hm : l.drop i ∈ ws
    · have hs := stI_mem hW.rise hm
      rw [LS_self (isWord_iff.2 hm)] at hLS
      repeat' (first
       | refine wp2_seq fun K hK => ?_
       | refine M_cons fun K hK => ?_
       | (refine hK _ ?_; clear hK K)
       | (refine hX _ ?_; clear hX hY X Y)
       | (refine hY _ ?_; clear hX hY X Y)
       | refine wp2_block ?_
       | refine wp2_region ?_
       | refine wp2_cond fun X Y hX hY => ?_
       | (refine condK_of (fun c => ?_) (fun c => ?_) <;> (try simp [-List.length_eq_zero_iff] at c))
       | (refine callT_fl (state_c hW e1) (by simp [St.args, St.arg, s0, s1, s7, hLS] <;> first | rfl | ((repeat' first | rfl | apply And.intro); first | done | fail)) ?_)
       | simp (maxSteps := 4000000) (disch := omega) [s0, s1, s7, hLS])
      all_goals try (simp [s0, s1, s7, hLS, Back]; done)
      all_goals first | omega | (simp [Back, hLS]; done) | skip
    · have hs := stI_not hm
      have hne : i < l.length := by
        rcases Nat.lt_or_ge i l.length with h | h
        · exact h
        · rw [List.drop_of_length_le h] at hm
          exact absurd h0 hm
      have e2 : LS (isWord ws) (l.drop i) = LS (isWord ws) (l.drop (i + 1)) := by
        rw [List.drop_eq_getElem_cons hne] at hm ⊢
        rw [LS, if_neg]
        rw [isWord_iff]
        exact hm
      repeat' (first
       | refine wp2_seq fun K hK => ?_
       | refine M_cons fun K hK => ?_
       | (refine hK _ ?_; clear hK K)
       | (refine hX _ ?_; clear hX hY X Y)
       | (refine hY _ ?_; clear hX hY X Y)
       | refine wp2_block ?_
       | refine wp2_region ?_
       | refine wp2_cond fun X Y hX hY => ?_
       | (refine condK_of (fun c => ?_) (fun c => ?_) <;> (try simp [-List.length_eq_zero_iff] at c))
       | (refine callT_fl (state_c hW e1) (by simp [St.args, St.arg, s0, s1, s7, hs] <;> first | rfl | ((repeat' first | rfl | apply And.intro); first | done | fail)) ?_)
       | simp (maxSteps := 4000000) (disch := omega) [s0, s1, s7, hs])
      all_goals first
        | omega
        | (refine hK' (l.length - (i + 1)) _ (by omega) ⟨i + 1, ?_⟩
           simp [s0, s1, hLS, e2]
           omega)
end Cal

/- A calculus of our own: more rules for reckoning: rows of records. -/
set_option linter.unusedSimpArgs false
set_option linter.unusedVariables false
namespace Cal
open Go Go.Proofs
def recRow {α : Type} (enc : α → List T) (l : List α) : List (List T) := l.map enc
def recs {α : Type} (enc : α → List T) (l : List α) : T := .sl (recRow enc l)
def nth {α : Type} [Inhabited α] (l : List α) (i : Int) : α := l.getD i.toNat default
variable {α : Type} [Inhabited α] (enc : α → List T)
@[simp] theorem recRow_length {α : Type} (enc : α → List T) (l : List α) : (recRow enc l).length = l.length := by simp [recRow]
@[simp] theorem lenA_recs {α : Type} (enc : α → List T) (k : Nat) (l : List α) : lenA (.sl k) (.t (recs enc l)) = some l.length := by simp [lenA, recs]
theorem recRow_get {l : List α} {i : Nat} (h : i < l.length) : (recRow enc l)[i]? = some (enc (nth l i)) := by
  simp [recRow, nth, h]
theorem index_recs (e : Nat) (ag : Bool) (n b : Nat) (z : List Value) (l : List α) (i : Int) (hn : ∀ x, n = (enc x).length) (h0 : 0 ≤ i) (h1 : i < l.length) :
    indexAddrA (some (e, ⟨ag, n, b, z⟩)) (.t (recs enc l)) i = some (.roptr (enc (nth l i))) := by
  have h2 : ((i.toNat : Nat) : Int) = i := by omega
  have h3 := recRow_get enc (l := l) (i := i.toNat) (by omega)
  rw [h2] at h3
  simp only [indexAddrA, recs, h0, if_true, h3]
  rw [if_pos (hn _)]
@[simp] theorem recs_sl {α : Type} (enc : α → List T) (l : List α) : T.sl (recRow enc l) = recs enc l := rfl
@[simp] theorem take_recRow {α : Type} (enc : α → List T) (l : List α) : (recRow enc l).take l.length = recRow enc l := by
  have := List.take_length (l := recRow enc l)
  rwa [recRow_length] at this
theorem nth_get {l : List α} {i : Nat} (h : i < l.length) : nth l i = l[i] := by
  unfold nth
  rw [Int.toNat_natCast, List.getD_eq_getElem?_getD, List.getElem?_eq_getElem h]
  rfl
theorem mem_nth {l : List α} {x : α} : x ∈ l ↔ ∃ i : Nat, i < l.length ∧ nth l i = x := by
  rw [List.mem_iff_getElem]
  constructor
  · rintro ⟨i, h, e⟩
    exact ⟨i, h, by rw [nth_get h]; exact e⟩
  · rintro ⟨i, h, e⟩
    exact ⟨i, h, by rw [← nth_get h]; exact e⟩
/-- A row that is being filled. -/
def filled (r : List (List T)) (k : Nat) (z : List T) : List (List T) := r.take k ++ List.replicate (r.length - k) z
theorem filled_0 (r : List (List T)) (z : List T) : filled r 0 z = List.replicate r.length z := by simp [filled]
@[simp] theorem filled_all (r : List (List T)) (z : List T) : filled r r.length z = r := by simp [filled]
@[simp] theorem filled_length (r : List (List T)) (k : Nat) (z : List T) (h : k ≤ r.length) : (filled r k z).length = r.length := by
  simp [filled]; omega
theorem filled_get {r : List (List T)} {k : Nat} {z : List T} (h : k < r.length) : (filled r k z)[k]? = some z := by
  unfold filled
  rw [List.getElem?_append_right (by simp; omega), List.getElem?_replicate, if_pos (by simp; omega)]
theorem filled_set {r : List (List T)} {k : Nat} {z e : List T} (h : k < r.length) (he : r[k]? = some e) : (filled r k z).set k e = filled r (k + 1) z := by
  unfold filled
  rw [List.set_append_right _ _ (by simp; omega)]
  have e1 : r.length - k = (r.length - (k + 1)) + 1 := by omega
  have e2 : k - (r.take k).length = 0 := by simp; omega
  rw [e1, e2, List.replicate_succ, List.set_cons_zero, List.take_add_one, he]
  simp
@[simp] theorem wrap_mul (a b : Int) (h0 : -9223372036854775808 ≤ a * b) (h1 : a * b < 9223372036854775808) : IntKind.i64.wrap (a * b) = a * b := wrap_in h0 h1
end Cal

/- Rules; spec.l3RulesGood, impl.rulesFine, spec.l2Suffix, spec.l3Bad, spec.l3Must. -/
set_option linter.unusedSimpArgs false
set_option linter.unusedVariables false
namespace Cal
open Go Go.Proofs
set_option maxRecDepth 100000
structure Ru where
  rel : Int
  only : Bool
  seq : List Int
instance : Inhabited Ru := ⟨⟨0, false, []⟩⟩
def encRu (r : Ru) : List T := [.v (.int .i64 r.rel), .v (.bool r.only), ints r.seq]
@[simp] theorem index_Ru (e : Nat) (ag : Bool) (b : Nat) (z : List Value) (l : List Ru) (i : Int) (h0 : 0 ≤ i) (h1 : i < l.length) : indexAddrA (some (e, ⟨ag, 3, b, z⟩)) (.t (recs encRu l)) i = some (.roptr (encRu (nth l i))) := index_recs encRu e ag 3 b z l i (fun _ => rfl) h0 h1
/-- Rules that the calculus takes. -/
structure Rus (rs : List Ru) : Prop where
  len : rs.length ≤ 1048576
  each : ∀ i : Nat, i < rs.length → (nth rs i).seq.length ≤ 1048576
def EOK (l : List Int) : Prop := ∀ j : Nat, j < l.length → 0 ≤ rd l j ∧ rd l j < 4000
def RFine (r : Ru) : Prop := 2 ≤ r.seq.length ∧ r.seq.length ≤ 402 ∧ EOK r.seq
def RGood (rs : List Ru) : Prop := rs.length ≤ 1000 ∧ ∀ i : Nat, i < rs.length → RFine (nth rs i)
noncomputable instance (rs : List Ru) : Decidable (RGood rs) := Classical.propDecidable _
/-- The code of spec.l3RulesGood. -/
def k90 : Code1 :=
 (.seq
 (.region [] false ([]) [
 ⟨some 2,Op.assign (Operand.const (Value.bool false)),none⟩])
 (.seq
 (.seq
 (.region [] false ([]) [
 ⟨some 5,Op.move (Operand.tmp 0),none⟩,
 ⟨some 6,Op.call {callee:=Callee.builtin Builtin.len,args:=#[Operand.tmp 5],argTypes:=#[65]},none⟩,
 ⟨some 7,Op.binOp BinOp.gtr 3 (Operand.tmp 6) (Operand.const (Value.int IntKind.i64 1000)) 3,none⟩])
 (.cond (Operand.tmp 7)
 (.seq
 (.region [] false ([]) [
 ⟨some 2,Op.assign (Operand.const (Value.bool false)),none⟩])
 .ret)
 .skip))
 (.seq
 (.seq
 (.region [] false ([]) [
 ⟨some 3,Op.assign (Operand.const (Value.int IntKind.i64 0)),none⟩])
 (.block 0
 (.loop
 (.seq
 (.seq
 (.region [] false ([]) [
 ⟨some 8,Op.move (Operand.tmp 3),none⟩,
 ⟨some 9,Op.move (Operand.tmp 0),none⟩,
 ⟨some 10,Op.call {callee:=Callee.builtin Builtin.len,args:=#[Operand.tmp 9],argTypes:=#[65]},none⟩,
 ⟨some 11,Op.binOp BinOp.lss 3 (Operand.tmp 8) (Operand.tmp 10) 3,none⟩])
 (.cond (Operand.tmp 11)
 .skip
 (.exit 0)))
 (.seq
 (.block 1
 (.seq
 (.seq
 (.region [] false ([]) [
 ⟨some 14,Op.move (Operand.tmp 0),none⟩,
 ⟨some 15,Op.move (Operand.tmp 3),none⟩,
 ⟨some 16,Op.indexAddr 65 (Operand.tmp 14) (Operand.tmp 15),none⟩,
 ⟨some 17,Op.fieldAddr 98 (Operand.tmp 16) 2,none⟩,
 ⟨some 18,Op.load 22 (Operand.tmp 17),none⟩,
 ⟨some 19,Op.call {callee:=Callee.builtin Builtin.len,args:=#[Operand.tmp 18],argTypes:=#[22]},none⟩,
 ⟨some 20,Op.binOp BinOp.lss 3 (Operand.tmp 19) (Operand.const (Value.int IntKind.i64 2)) 3,none⟩,
 ⟨some 21,Op.move (Operand.tmp 20),none⟩,
 ⟨some 22,Op.move (Operand.tmp 0),some (21,false)⟩,
 ⟨some 23,Op.move (Operand.tmp 3),some (21,false)⟩,
 ⟨some 24,Op.indexAddr 65 (Operand.tmp 22) (Operand.tmp 23),some (21,false)⟩,
 ⟨some 25,Op.fieldAddr 98 (Operand.tmp 24) 2,some (21,false)⟩,
 ⟨some 26,Op.load 22 (Operand.tmp 25),some (21,false)⟩,
 ⟨some 27,Op.call {callee:=Callee.builtin Builtin.len,args:=#[Operand.tmp 26],argTypes:=#[22]},some (21,false)⟩,
 ⟨some 28,Op.binOp BinOp.gtr 3 (Operand.tmp 27) (Operand.const (Value.int IntKind.i64 402)) 3,some (21,false)⟩,
 ⟨some 29,Op.pick (Operand.tmp 21) (Operand.const (Value.bool true)) (Operand.tmp 28),none⟩])
 (.cond (Operand.tmp 29)
 (.seq
 (.region [] false ([]) [
 ⟨some 2,Op.assign (Operand.const (Value.bool false)),none⟩])
 .ret)
 .skip))
 (.seq
 (.region [] false ([]) [
 ⟨some 4,Op.assign (Operand.const (Value.int IntKind.i64 0)),none⟩])
 (.block 2
 (.loop
 (.seq
 (.seq
 (.region [] false ([]) [
 ⟨some 30,Op.move (Operand.tmp 4),none⟩,
 ⟨some 31,Op.move (Operand.tmp 0),none⟩,
 ⟨some 32,Op.move (Operand.tmp 3),none⟩,
 ⟨some 33,Op.indexAddr 65 (Operand.tmp 31) (Operand.tmp 32),none⟩,
 ⟨some 34,Op.fieldAddr 98 (Operand.tmp 33) 2,none⟩,
 ⟨some 35,Op.load 22 (Operand.tmp 34),none⟩,
 ⟨some 36,Op.call {callee:=Callee.builtin Builtin.len,args:=#[Operand.tmp 35],argTypes:=#[22]},none⟩,
 ⟨some 37,Op.binOp BinOp.lss 3 (Operand.tmp 30) (Operand.tmp 36) 3,none⟩])
 (.cond (Operand.tmp 37)
 .skip
 (.exit 2)))
 (.seq
 (.block 3
 (.seq
 (.region [] false ([]) [
 ⟨some 40,Op.move (Operand.tmp 0),none⟩,
 ⟨some 41,Op.move (Operand.tmp 3),none⟩,
 ⟨some 42,Op.indexAddr 65 (Operand.tmp 40) (Operand.tmp 41),none⟩,
 ⟨some 43,Op.fieldAddr 98 (Operand.tmp 42) 2,none⟩,
 ⟨some 44,Op.load 22 (Operand.tmp 43),none⟩,
 ⟨some 45,Op.move (Operand.tmp 4),none⟩,
 ⟨some 46,Op.indexAddr 22 (Operand.tmp 44) (Operand.tmp 45),none⟩,
 ⟨some 47,Op.load 2 (Operand.tmp 46),none⟩,
 ⟨some 48,Op.binOp BinOp.lss 2 (Operand.tmp 47) (Operand.const (Value.int IntKind.i64 0)) 2,none⟩,
 ⟨some 49,Op.move (Operand.tmp 48),none⟩,
 ⟨some 50,Op.move (Operand.tmp 0),some (49,false)⟩,
 ⟨some 51,Op.move (Operand.tmp 3),some (49,false)⟩,
 ⟨some 52,Op.indexAddr 65 (Operand.tmp 50) (Operand.tmp 51),some (49,false)⟩,
 ⟨some 53,Op.fieldAddr 98 (Operand.tmp 52) 2,some (49,false)⟩,
 ⟨some 54,Op.load 22 (Operand.tmp 53),some (49,false)⟩,
 ⟨some 55,Op.move (Operand.tmp 4),some (49,false)⟩,
 ⟨some 56,Op.indexAddr 22 (Operand.tmp 54) (Operand.tmp 55),some (49,false)⟩,
 ⟨some 57,Op.load 2 (Operand.tmp 56),some (49,false)⟩,
 ⟨some 58,Op.binOp BinOp.geq 2 (Operand.tmp 57) (Operand.const (Value.int IntKind.i64 4000)) 2,some (49,false)⟩,
 ⟨some 59,Op.pick (Operand.tmp 49) (Operand.const (Value.bool true)) (Operand.tmp 58),none⟩])
 (.cond (Operand.tmp 59)
 (.seq
 (.region [] false ([]) [
 ⟨some 2,Op.assign (Operand.const (Value.bool false)),none⟩])
 .ret)
 .skip)))
 (.region [] false ([]) [
 ⟨some 38,Op.move (Operand.tmp 4),none⟩,
 ⟨some 39,Op.binOp BinOp.add 3 (Operand.tmp 38) (Operand.const (Value.int IntKind.i64 1)) 3,none⟩,
 ⟨some 4,Op.assign (Operand.tmp 39),none⟩]))))))))
 (.region [] false ([]) [
 ⟨some 12,Op.move (Operand.tmp 3),none⟩,
 ⟨some 13,Op.binOp BinOp.add 3 (Operand.tmp 12) (Operand.const (Value.int IntKind.i64 1)) 3,none⟩,
 ⟨some 3,Op.assign (Operand.tmp 13),none⟩]))))))
 (.seq
 (.region [] false ([]) [
 ⟨some 2,Op.assign (Operand.const (Value.bool true)),none⟩])
 .ret))))
set_option maxHeartbeats 0 in
theorem good_c {rs : List Ru} (hW : Rus rs) : CallsF Try.prog 90 [.val (recs encRu rs)] (.t (.v (.bool (decide (RGood rs))))) [] := by
  have l1 := hW.len
  refine callsF_of_wp2 (fn := Try.f90) (k := k90) (fun _ => []) mixed (by kernel_rfl) rfl (by kernel_rfl) (by kernel_rfl) (by kernel_rfl) rfl (by simp [Try.f90]) (by simp [Arg.like]) ?_
  generalize hst : St.enter [.val (recs encRu rs)] = st0
  have t0 : st0.tm 0 = .t (recs encRu rs) := by rw [← hst]; rfl
  clear hst
  unfold k90
  by_cases hl : 1000 < rs.length
  · have hg : ¬ RGood rs := fun h => by have := h.1; omega
    repeat' (first
     | refine wp2_seq fun K hK => ?_
     | refine M_cons fun K hK => ?_
     | (refine hK _ ?_; clear hK K)
     | (refine hX _ ?_; clear hX hY X Y)
     | (refine hY _ ?_; clear hX hY X Y)
     | refine wp2_block ?_
     | refine wp2_region ?_
     | refine wp2_cond fun X Y hX hY => ?_
     | (refine condK_of (fun c => ?_) (fun c => ?_) <;> (try simp [-List.length_eq_zero_iff] at c))
     | simp (maxSteps := 4000000) (disch := omega) [t0, hl, hg])
    all_goals try (simp [t0, hl, hg, Back]; done)
    all_goals first | omega | simp [Back, hg]
  · repeat' (first
   | refine wp2_seq fun K hK => ?_
   | refine M_cons fun K hK => ?_
   | (refine hK _ ?_; clear hK K)
   | (refine hX _ ?_; clear hX hY X Y)
   | (refine hY _ ?_; clear hX hY X Y)
   | refine wp2_block ?_
   | refine wp2_region ?_
   | refine wp2_cond fun X Y hX hY => ?_
   | (refine condK_of (fun c => ?_) (fun c => ?_) <;> (try simp [-List.length_eq_zero_iff] at c))
   | simp (maxSteps := 4000000) (disch := omega) [t0, hl])
    all_goals first | omega | skip
    have hJ : RGood rs → ∀ s, K s := by
      intro hg s
      repeat' (first
       | refine wp2_seq fun K hK => ?_
       | refine M_cons fun K hK => ?_
       | (refine hK _ ?_; clear hK K)
       | refine wp2_region ?_
       | simp (maxSteps := 4000000) (disch := omega) [hg])
      all_goals try (simp [hg, Back]; done)
    clear hK
    refine wp2_loop (fun n s => ∃ k : Nat, s.tm 0 = .t (recs encRu rs) ∧ s.tm 3 = .t (.v (.int .i64 k)) ∧ k ≤ rs.length ∧ n = rs.length - k ∧ ∀ i < k, RFine (nth rs i)) rs.length ?_ ?_
    · exact ⟨0, by simp [t0], by simp, by omega, rfl, fun i hi => by omega⟩
    · rintro n s ⟨k, s0, s3, hk, rfl, hq⟩ K' hK'
      by_cases hlt : k < rs.length
      · have hb := hW.each k hlt
        have out : ¬ RFine (nth rs k) → ¬ RGood rs := fun h hg => h (hg.2 k hlt)
        generalize hw : nth rs (k : Int) = r at *
        by_cases h2 : (r.seq.length : Int) < 2
        · have hg := out (fun h => by have := h.1; omega)
          repeat' (first
           | refine wp2_seq fun K hK => ?_
           | refine M_cons fun K hK => ?_
           | (refine hK _ ?_; clear hK K)
           | (refine hX _ ?_; clear hX hY X Y)
           | refine wp2_block ?_
           | refine wp2_region ?_
           | refine wp2_cond fun X Y hX hY => ?_
           | (refine condK_of (fun c => ?_) (fun c => ?_) <;> (try simp [-List.length_eq_zero_iff] at c))
           | simp (maxSteps := 4000000) (disch := omega) [s0, s3, hlt, hw, encRu, h2, hg])
          all_goals try (simp [s0, s3, hlt, hw, encRu, h2, hg, Back]; done)
          all_goals first | omega | simp [Back, hg]
        · by_cases h4 : 402 < (r.seq.length : Int)
          · have hg := out (fun h => by have := h.2.1; omega)
            repeat' (first
             | refine wp2_seq fun K hK => ?_
             | refine M_cons fun K hK => ?_
             | (refine hK _ ?_; clear hK K)
             | (refine hX _ ?_; clear hX hY X Y)
             | refine wp2_block ?_
             | refine wp2_region ?_
             | refine wp2_cond fun X Y hX hY => ?_
             | (refine condK_of (fun c => ?_) (fun c => ?_) <;> (try simp [-List.length_eq_zero_iff] at c))
             | simp (maxSteps := 4000000) (disch := omega) [s0, s3, hlt, hw, encRu, h2, h4, hg])
            all_goals try (simp [s0, s3, hlt, hw, encRu, h2, h4, hg, Back]; done)
            all_goals first | omega | simp [Back, hg]
          · repeat' (first
           | refine wp2_seq fun K hK => ?_
           | refine M_cons fun K hK => ?_
           | (refine hK _ ?_; clear hK K)
           | (refine hX _ ?_; clear hX hY X Y)
           | (refine hY _ ?_; clear hX hY X Y)
           | refine wp2_block ?_
           | refine wp2_region ?_
           | refine wp2_cond fun X Y hX hY => ?_
           | (refine condK_of (fun c => ?_) (fun c => ?_) <;> (try simp [-List.length_eq_zero_iff] at c))
           | simp (maxSteps := 4000000) (disch := omega) [s0, s3, hlt, hw, encRu, h2, h4])
            all_goals first | omega | skip
            have hJ2 : RFine r → ∀ s, s.tm 0 = .t (recs encRu rs) → s.tm 3 = .t (.v (.int .i64 k)) → K s := by
              intro hf s s0 s3
              repeat' (first
               | refine M_cons fun K hK => ?_
               | (refine hK _ ?_; clear hK K)
               | refine wp2_region ?_
               | simp (maxSteps := 4000000) (disch := omega) [s0, s3])
              refine hK' (rs.length - (k + 1)) _ (by omega) ⟨k + 1, by simp [s0], by simp, by omega, rfl, below_succ hq (by rw [hw]; exact hf)⟩
            clear hK
            refine wp2_loop (fun n s => ∃ j : Nat, s.tm 0 = .t (recs encRu rs) ∧ s.tm 3 = .t (.v (.int .i64 k)) ∧ s.tm 4 = .t (.v (.int .i64 j)) ∧ j ≤ r.seq.length ∧ n = r.seq.length - j ∧ ∀ i < j, 0 ≤ rd r.seq i ∧ rd r.seq i < 4000) r.seq.length ?_ ?_
            · exact ⟨0, by simp [s0], by simp [s3], by simp, by omega, rfl, fun i hi => by omega⟩
            · rintro n s ⟨j, s0, s3, s4, hj, rfl, hq2⟩ K2 hK2
              by_cases hjl : j < r.seq.length
              · by_cases e1 : rd r.seq j < 0
                · have hg := out (fun h => by have := (h.2.2 j hjl).1; omega)
                  repeat' (first
                   | refine wp2_seq fun K hK => ?_
                   | refine M_cons fun K hK => ?_
                   | (refine hK _ ?_; clear hK K)
                   | (refine hX _ ?_; clear hX hY X Y)
                   | refine wp2_block ?_
                   | refine wp2_region ?_
                   | refine wp2_cond fun X Y hX hY => ?_
                   | (refine condK_of (fun c => ?_) (fun c => ?_) <;> (try simp [-List.length_eq_zero_iff] at c))
                   | simp (maxSteps := 4000000) (disch := omega) [s0, s3, s4, hlt, hw, encRu, hjl, e1, hg])
                  all_goals try (simp [s0, s3, s4, hlt, hw, encRu, hjl, e1, hg, Back]; done)
                  all_goals first | omega | simp [Back, hg]
                · by_cases e2 : 4000 ≤ rd r.seq j
                  · have hg := out (fun h => by have := (h.2.2 j hjl).2; omega)
                    repeat' (first
                     | refine wp2_seq fun K hK => ?_
                     | refine M_cons fun K hK => ?_
                     | (refine hK _ ?_; clear hK K)
                     | (refine hX _ ?_; clear hX hY X Y)
                     | refine wp2_block ?_
                     | refine wp2_region ?_
                     | refine wp2_cond fun X Y hX hY => ?_
                     | (refine condK_of (fun c => ?_) (fun c => ?_) <;> (try simp [-List.length_eq_zero_iff] at c))
                     | simp (maxSteps := 4000000) (disch := omega) [s0, s3, s4, hlt, hw, encRu, hjl, e1, e2, hg])
                    all_goals try (simp [s0, s3, s4, hlt, hw, encRu, hjl, e1, e2, hg, Back]; done)
                    all_goals first | omega | simp [Back, hg]
                  · repeat' (first
                   | refine wp2_seq fun K hK => ?_
                   | refine M_cons fun K hK => ?_
                   | (refine hK _ ?_; clear hK K)
                   | (refine hX _ ?_; clear hX hY X Y)
                   | (refine hY _ ?_; clear hX hY X Y)
                   | refine wp2_block ?_
                   | refine wp2_region ?_
                   | refine wp2_cond fun X Y hX hY => ?_
                   | (refine condK_of (fun c => ?_) (fun c => ?_) <;> (try simp [-List.length_eq_zero_iff] at c))
                   | simp (maxSteps := 4000000) (disch := omega) [s0, s3, s4, hlt, hw, encRu, hjl, e1, e2])
                    all_goals first | omega | skip
                    exact hK2 (r.seq.length - (j + 1)) _ (by omega) ⟨j + 1, by simp [s0], by simp [s3], by simp, by omega, rfl, below_succ (p := fun i : Nat => 0 ≤ rd r.seq i ∧ rd r.seq i < 4000) hq2 ⟨by omega, by omega⟩⟩
              · obtain rfl : j = r.seq.length := by omega
                repeat' (first
                 | refine wp2_seq fun K hK => ?_
                 | refine M_cons fun K hK => ?_
                 | (refine hK _ ?_; clear hK K)
                 | (refine hY _ ?_; clear hX hY X Y)
                 | refine wp2_region ?_
                 | refine wp2_cond fun X Y hX hY => ?_
                 | (refine condK_of (fun c => ?_) (fun c => ?_) <;> (try simp [-List.length_eq_zero_iff] at c))
                 | simp (maxSteps := 4000000) (disch := omega) [s0, s3, s4, hlt, hw, encRu])
                all_goals first | omega | skip
                exact hJ2 ⟨by omega, by omega, fun i hi => hq2 i hi⟩ _ (by simp [s0]) (by simp [s3])
      · obtain rfl : k = rs.length := by omega
        repeat' (first
         | refine wp2_seq fun K hK => ?_
         | refine M_cons fun K hK => ?_
         | (refine hK _ ?_; clear hK K)
         | (refine hY _ ?_; clear hX hY X Y)
         | refine wp2_region ?_
         | refine wp2_cond fun X Y hX hY => ?_
         | (refine condK_of (fun c => ?_) (fun c => ?_) <;> (try simp [-List.length_eq_zero_iff] at c))
         | simp (maxSteps := 4000000) (disch := omega) [s0, s3])
        all_goals first | omega | skip
        exact hJ ⟨by omega, hq⟩ _
end Cal

/- Rules and automata in the law: sizes, copies, comparing, marks. -/
set_option linter.unusedSimpArgs false
set_option linter.unusedVariables false
namespace Cal
open Go Go.Proofs
set_option maxRecDepth 100000
/-- What a size leaves. -/
def leaveU (left z : Int) : Int := if left < z then -1 else left - z
def lenU (r : Ru) : Int := r.seq.length
def sumU (l : List Ru) : Nat → Int
  | 0 => 0
  | k + 1 => sumU l k + lenU (nth l k)
theorem sumU_mono {l : List Ru} {i j : Nat} (hij : i ≤ j) : sumU l i ≤ sumU l j := by
  induction j with
  | zero => obtain rfl : i = 0 := by omega
            exact Int.le_refl _
  | succ j ih =>
    rcases Nat.lt_or_ge i (j + 1) with h1 | h1
    · have := ih (by omega)
      show sumU l i ≤ sumU l j + lenU (nth l j)
      have : 0 ≤ lenU (nth l j) := by unfold lenU; omega
      omega
    · obtain rfl : i = j + 1 := by omega
      exact Int.le_refl _
theorem sumU_nn {l : List Ru} (k : Nat) : 0 ≤ sumU l k := sumU_mono (i := 0) (by omega)
/-- The code of laws.szRule. -/
def k89 : Code1 :=
 (.seq
 (.region [2] false ([]) [
 ⟨some 2,Op.box 133 (Operand.tmp 0),none⟩,
 ⟨some 4,Op.assign (Operand.const (Value.int IntKind.i64 0)),none⟩])
 (.seq
 (.region [8] false ([]) [
 ⟨some 5,Op.fieldAddr 133 (Operand.tmp 2) 2,none⟩,
 ⟨some 6,Op.load 22 (Operand.tmp 5),none⟩,
 ⟨some 7,Op.move (Operand.tmp 1),none⟩,
 ⟨some 8,Op.call {callee:=Callee.value (Operand.func 59),args:=#[Operand.tmp 6,Operand.tmp 7],argTypes:=#[22,3]},none⟩,
 ⟨some 1,Op.assign (Operand.tmp 8),none⟩])
 (.seq
 (.seq
 (.region [] false ([]) [
 ⟨some 9,Op.move (Operand.tmp 1),none⟩,
 ⟨some 10,Op.binOp BinOp.lss 3 (Operand.tmp 9) (Operand.const (Value.int IntKind.i64 0)) 3,none⟩])
 (.cond (Operand.tmp 10)
 (.seq
 (.region [] false ([]) [
 ⟨some 4,Op.assign (Operand.const (Value.int IntKind.i64 (-1))),none⟩])
 .ret)
 .skip))
 (.seq
 (.region [] false ([]) [
 ⟨some 11,Op.move (Operand.tmp 1),none⟩,
 ⟨some 4,Op.assign (Operand.tmp 11),none⟩])
 .ret))))
theorem szU (r : Ru) (left : Int) (g1 : r.seq.length ≤ 9223372036854775807) (h1 : 0 ≤ left) (h2 : left < 1152921504606846976) :
    CallsF Try.prog 89 [.agg (encRu r), .val (.v (.int .i64 left))] (.t (.v (.int .i64 (leaveU left (lenU r))))) [] := by
  refine callsF_of_wp2 (fn := Try.f89) (k := k89) (fun _ => []) mixed (by kernel_rfl) rfl (by kernel_rfl) (by kernel_rfl) (by kernel_rfl) rfl (by simp [Try.f89]) (by simp [Arg.like]) ?_
  generalize hst : St.enter [.agg (encRu r), .val (.v (.int .i64 left))] = st0
  have t0 : st0.tm 0 = .agg ((encRu r) |>.map .t) := by rw [← hst]; rfl
  have t1 : st0.tm 1 = .t (.v (.int .i64 left)) := by rw [← hst]; rfl
  clear hst
  unfold k89
  simp [encRu] at t0
  have hd : (left < (r.seq.length : Int)) ∨ ((r.seq.length : Int) ≤ left) := by omega
  rcases hd with e | e
  all_goals
    repeat' (first
     | refine wp2_seq fun K hK => ?_
     | refine M_cons fun K hK => ?_
     | (refine hK _ ?_; clear hK K)
     | (refine hX _ ?_; clear hX hY X Y)
     | (refine hY _ ?_; clear hX hY X Y)
     | refine wp2_region ?_
     | refine wp2_cond fun X Y hX hY => ?_
     | (refine condK_of (fun c => ?_) (fun c => ?_) <;> (try simp [-List.length_eq_zero_iff] at c))
     | (refine callT_fl (szI_ok _ _ ?_ ?_ ?_) (by simp [St.args, St.arg, t0, t1] <;> first | rfl | ((repeat' first | rfl | apply And.intro); first | done | fail)) ?_; omega; omega; omega)
     | (refine callT_fl (szI_no _ _ ?_ ?_ ?_) (by simp [St.args, St.arg, t0, t1] <;> first | rfl | ((repeat' first | rfl | apply And.intro); first | done | fail)) ?_; omega; omega; omega)
     | simp (maxSteps := 4000000) (disch := omega) [t0, t1])
  all_goals first
    | (have hs : left < lenU r := by (unfold lenU; omega)
       simp [Back, leaveU, hs]; done)
    | (have hs : ¬ left < lenU r := by (unfold lenU; omega)
       simp [Back, leaveU, hs]
       unfold lenU
       omega)
/-- The code of laws.szRuleS. -/
def k29 : Code1 :=
 (.seq
 (.region [] false ([]) [
 ⟨some 4,Op.assign (Operand.const (Value.int IntKind.i64 0)),none⟩])
 (.seq
 (.region [] false ([]) [
 ⟨some 6,Op.move (Operand.tmp 1),none⟩,
 ⟨some 7,Op.move (Operand.tmp 0),none⟩,
 ⟨some 8,Op.call {callee:=Callee.builtin Builtin.len,args:=#[Operand.tmp 7],argTypes:=#[57]},none⟩,
 ⟨some 9,Op.binOp BinOp.sub 3 (Operand.tmp 6) (Operand.tmp 8) 3,none⟩,
 ⟨some 1,Op.assign (Operand.tmp 9),none⟩])
 (.seq
 (.seq
 (.region [] false ([]) [
 ⟨some 10,Op.move (Operand.tmp 1),none⟩,
 ⟨some 11,Op.binOp BinOp.lss 3 (Operand.tmp 10) (Operand.const (Value.int IntKind.i64 0)) 3,none⟩])
 (.cond (Operand.tmp 11)
 (.seq
 (.region [] false ([]) [
 ⟨some 4,Op.assign (Operand.const (Value.int IntKind.i64 (-1))),none⟩])
 .ret)
 .skip))
 (.seq
 (.seq
 (.region [] false ([]) [
 ⟨some 5,Op.assign (Operand.const (Value.int IntKind.i64 0)),none⟩])
 (.block 0
 (.loop
 (.seq
 (.seq
 (.region [] false ([]) [
 ⟨some 12,Op.move (Operand.tmp 5),none⟩,
 ⟨some 13,Op.move (Operand.tmp 0),none⟩,
 ⟨some 14,Op.call {callee:=Callee.builtin Builtin.len,args:=#[Operand.tmp 13],argTypes:=#[57]},none⟩,
 ⟨some 15,Op.binOp BinOp.lss 3 (Operand.tmp 12) (Operand.tmp 14) 3,none⟩])
 (.cond (Operand.tmp 15)
 .skip
 (.exit 0)))
 (.seq
 (.block 1
 (.seq
 (.region [23] false ([]) [
 ⟨some 18,Op.move (Operand.tmp 0),none⟩,
 ⟨some 19,Op.move (Operand.tmp 5),none⟩,
 ⟨some 20,Op.indexAddr 57 (Operand.tmp 18) (Operand.tmp 19),none⟩,
 ⟨some 21,Op.load 133 (Operand.tmp 20),none⟩,
 ⟨some 22,Op.move (Operand.tmp 1),none⟩,
 ⟨some 23,Op.call {callee:=Callee.value (Operand.func 89),args:=#[Operand.tmp 21,Operand.tmp 22],argTypes:=#[133,3]},none⟩,
 ⟨some 1,Op.assign (Operand.tmp 23),none⟩])
 (.seq
 (.region [] false ([]) [
 ⟨some 24,Op.move (Operand.tmp 1),none⟩,
 ⟨some 25,Op.binOp BinOp.lss 3 (Operand.tmp 24) (Operand.const (Value.int IntKind.i64 0)) 3,none⟩])
 (.cond (Operand.tmp 25)
 (.seq
 (.region [] false ([]) [
 ⟨some 4,Op.assign (Operand.const (Value.int IntKind.i64 (-1))),none⟩])
 .ret)
 .skip))))
 (.region [] false ([]) [
 ⟨some 16,Op.move (Operand.tmp 5),none⟩,
 ⟨some 17,Op.binOp BinOp.add 3 (Operand.tmp 16) (Operand.const (Value.int IntKind.i64 1)) 3,none⟩,
 ⟨some 5,Op.assign (Operand.tmp 17),none⟩]))))))
 (.seq
 (.region [] false ([]) [
 ⟨some 26,Op.move (Operand.tmp 1),none⟩,
 ⟨some 4,Op.assign (Operand.tmp 26),none⟩])
 .ret)))))
theorem szUs (l : List Ru) (left : Int) (g0 : l.length ≤ 9223372036854775807) (g : ∀ i : Nat, i < l.length → (nth l i).seq.length ≤ 9223372036854775807) (h1 : 0 ≤ left) (h2 : left < 1152921504606846976) :
    CallsF Try.prog 29 [.val (recs encRu l), .val (.v (.int .i64 left))] (.t (.v (.int .i64 (leaveU left (l.length + sumU l l.length))))) [] := by
  have nn : ∀ w : Ru, 0 ≤ lenU w := fun w => by unfold lenU; omega
  refine callsF_of_wp2 (fn := Try.f29) (k := k29) (fun _ => []) mixed (by kernel_rfl) rfl (by kernel_rfl) (by kernel_rfl) (by kernel_rfl) rfl (by simp [Try.f29]) (by simp [Arg.like]) ?_
  generalize hst : St.enter [.val (recs encRu l), .val (.v (.int .i64 left))] = st0
  have t0 : st0.tm 0 = .t (recs encRu l) := by rw [← hst]; rfl
  have t1 : st0.tm 1 = .t (.v (.int .i64 left)) := by rw [← hst]; rfl
  clear hst
  unfold k29
  by_cases e : left < (l.length : Int)
  · have := sumU_nn (l := l) l.length
    have e2 : leaveU left (l.length + sumU l l.length) = -1 := if_pos (by omega)
    repeat' (first
     | refine wp2_seq fun K hK => ?_
     | refine M_cons fun K hK => ?_
     | (refine hK _ ?_; clear hK K)
     | (refine hX _ ?_; clear hX hY X Y)
     | (refine hY _ ?_; clear hX hY X Y)
     | refine wp2_block ?_
     | refine wp2_region ?_
     | refine wp2_cond fun X Y hX hY => ?_
     | (refine condK_of (fun c => ?_) (fun c => ?_) <;> (try simp [-List.length_eq_zero_iff] at c))
     | simp (maxSteps := 4000000) (disch := omega) [t0, t1, e2])
    all_goals try (simp [t0, t1, e2, Back]; done)
    all_goals omega
  · repeat' (first
   | refine wp2_seq fun K hK => ?_
   | refine M_cons fun K hK => ?_
   | (refine hK _ ?_; clear hK K)
   | (refine hX _ ?_; clear hX hY X Y)
   | (refine hY _ ?_; clear hX hY X Y)
   | refine wp2_block ?_
   | refine wp2_region ?_
   | refine wp2_cond fun X Y hX hY => ?_
   | (refine condK_of (fun c => ?_) (fun c => ?_) <;> (try simp [-List.length_eq_zero_iff] at c))
   | simp (maxSteps := 4000000) (disch := omega) [t0, t1])
    all_goals first | omega | skip
    have hJ : ∀ s, s.tm 1 = .t (.v (.int .i64 (leaveU left (l.length + sumU l l.length)))) → K s := by
      intro s s1
      repeat' (first
       | refine wp2_seq fun K hK => ?_
       | refine M_cons fun K hK => ?_
       | (refine hK _ ?_; clear hK K)
       | refine wp2_region ?_
       | simp (maxSteps := 4000000) (disch := omega) [s1])
      all_goals try (simp [s1, Back]; done)
    clear hK
    refine wp2_loop (fun m s => ∃ k : Nat, s.tm 0 = .t (recs encRu l) ∧ s.tm 1 = .t (.v (.int .i64 (left - l.length - sumU l k))) ∧ s.tm 5 = .t (.v (.int .i64 k)) ∧ k ≤ l.length ∧ m = l.length - k ∧ 0 ≤ left - l.length - sumU l k) l.length ?_ ?_
    · refine ⟨0, ?_⟩
      simp [t0, sumU]
      omega
    · rintro m s ⟨k, s0, s1, s5, hk, rfl, hq⟩ K' hK'
      by_cases hlt : k < l.length
      · have q := sumU_nn (l := l) k
        have gk1 := g k hlt
        have sm := sumU_mono (l := l) (show k + 1 ≤ l.length by omega)
        have e3 : sumU l (k + 1) = sumU l k + lenU (nth l k) := rfl
        have n3 := nn (nth l k)
        by_cases e4 : left - l.length - sumU l k < lenU (nth l k)
        · have e5 : leaveU (left - l.length - sumU l k) (lenU (nth l k)) = -1 := if_pos e4
          have e2 : leaveU left (l.length + sumU l l.length) = -1 := if_pos (by omega)
          repeat' (first
           | refine wp2_seq fun K hK => ?_
           | refine M_cons fun K hK => ?_
           | (refine hK _ ?_; clear hK K)
           | (refine hX _ ?_; clear hX hY X Y)
           | (refine hY _ ?_; clear hX hY X Y)
           | refine wp2_block ?_
           | refine wp2_region ?_
           | refine wp2_cond fun X Y hX hY => ?_
           | (refine condK_of (fun c => ?_) (fun c => ?_) <;> (try simp [-List.length_eq_zero_iff] at c))
           | (refine callT_fl (szU _ _ ?_ ?_ ?_) (by simp [St.args, St.arg, s0, s1, s5, encRu, e5] <;> first | rfl | ((repeat' first | rfl | apply And.intro); first | done | fail)) ?_; omega; omega; omega)
           | simp (maxSteps := 4000000) (disch := omega) [s0, s1, s5, encRu, e5])
          all_goals first
            | omega
            | (simp [Back, e2]; done)
            | skip
        · have e5 : leaveU (left - l.length - sumU l k) (lenU (nth l k)) = left - l.length - sumU l k - lenU (nth l k) := if_neg e4
          repeat' (first
           | refine wp2_seq fun K hK => ?_
           | refine M_cons fun K hK => ?_
           | (refine hK _ ?_; clear hK K)
           | (refine hX _ ?_; clear hX hY X Y)
           | (refine hY _ ?_; clear hX hY X Y)
           | refine wp2_block ?_
           | refine wp2_region ?_
           | refine wp2_cond fun X Y hX hY => ?_
           | (refine condK_of (fun c => ?_) (fun c => ?_) <;> (try simp [-List.length_eq_zero_iff] at c))
           | (refine callT_fl (szU _ _ ?_ ?_ ?_) (by simp [St.args, St.arg, s0, s1, s5, encRu, e5] <;> first | rfl | ((repeat' first | rfl | apply And.intro); first | done | fail)) ?_; omega; omega; omega)
           | simp (maxSteps := 4000000) (disch := omega) [s0, s1, s5, encRu, e5])
          all_goals first
            | omega
            | (refine hK' (l.length - (k + 1)) _ (by omega) ⟨k + 1, ?_⟩
               simp [s0, s5, e3]
               omega)
            | skip
      · have hkl : k = l.length := by omega
        subst hkl
        repeat' (first
         | refine wp2_seq fun K hK => ?_
         | refine M_cons fun K hK => ?_
         | (refine hK _ ?_; clear hK K)
         | (refine hY _ ?_; clear hX hY X Y)
         | refine wp2_region ?_
         | refine wp2_cond fun X Y hX hY => ?_
         | (refine condK_of (fun c => ?_) (fun c => ?_) <;> (try simp [-List.length_eq_zero_iff] at c))
         | simp (maxSteps := 4000000) (disch := omega) [s0, s1, s5])
        all_goals first
          | omega
          | (refine hJ _ ?_
             simp [s1, leaveU]
             rw [if_neg (by omega)]
             omega)
/-! ### copies -/
def zU : List T := [.v (.int .i64 0), .v (.bool false), .v (.slice none 0 0)]
@[simp] theorem make_rus (l : List Ru) (d e : Nat) (hl : l.length ≤ 1048576) : makeA d (some (e, ⟨true, 3, 40, [.int .i64 0, .bool false, .slice none 0 0]⟩)) (.t (.v (.int .i64 l.length))) (.t (.v (.int .i64 l.length))) = some (.row (d, 0) 3 0 l.length, [((d, 0), some (.row 3 (filled (recRow encRu l) 0 zU)))]) := by
  have h1 : (⟨true, 3, 40, [.int .i64 0, .bool false, .slice none 0 0]⟩ : TI).fine = true := by simp [TI.fine]
  have h2 : l.length * 40 ≤ lim := by unfold lim; omega
  simp only [makeA]
  rw [if_pos ⟨h1, by simp [plain], by omega, Int.le_refl _, by simpa using h2⟩, filled_0, recRow_length]
  rfl
@[simp] theorem filledU_len (l : List Ru) (k : Nat) (h : k ≤ l.length) : (filled (recRow encRu l) k zU).length = l.length := by
  rw [filled_length _ _ _ (by rw [recRow_length]; exact h), recRow_length]
@[simp] theorem filledU_get (l : List Ru) (k : Nat) (h : k < l.length) : (filled (recRow encRu l) k zU)[k]? = some zU := filled_get (by rw [recRow_length]; exact h)
theorem filledU_set (l : List Ru) (k : Nat) (h : k < l.length) : (filled (recRow encRu l) k zU).set k (encRu (nth l k)) = filled (recRow encRu l) (k + 1) zU := filled_set (by rw [recRow_length]; exact h) (recRow_get encRu h)
@[simp] theorem filledU_all (l : List Ru) : filled (recRow encRu l) l.length zU = recRow encRu l := by
  have := filled_all (recRow encRu l) zU
  rwa [recRow_length] at this
@[simp] theorem zU_len : zU.length = 3 := rfl
@[simp] theorem over_U (a b c : T) : overT zU 0 [a, b, c] = [a, b, c] := rfl
@[simp] theorem filledU_set' (l : List Ru) (k : Nat) (h : k < l.length) : (filled (recRow encRu l) k zU).set k [.v (.int .i64 (nth l k).rel), .v (.bool (nth l k).only), ints (nth l k).seq] = filled (recRow encRu l) (k + 1) zU := filledU_set l k h
def rvU (r : Ru) : List RV := [.t (.v (.int .i64 r.rel)), .t (.v (.bool r.only)), .own 1 (intRow r.seq)]
/-- The code of laws.toRule. -/
def k96 : Code1 :=
 (.seq
 (.region [1,2] false ([]) [
 ⟨some 1,Op.box 133 (Operand.tmp 0),none⟩,
 ⟨some 2,Op.alloc 98,none⟩])
 (.seq
 (.region [3] false ([]) [
 ⟨some 3,Op.alloc 98,none⟩])
 (.seq
 (.region [] false ([]) [
 ⟨some 4,Op.fieldAddr 133 (Operand.tmp 1) 0,none⟩,
 ⟨some 5,Op.load 2 (Operand.tmp 4),none⟩,
 ⟨some 6,Op.fieldAddr 98 (Operand.tmp 3) 0,none⟩,
 ⟨none,Op.store 2 (Operand.tmp 6) (Operand.tmp 5),none⟩])
 (.seq
 (.region [] false ([]) [
 ⟨some 7,Op.fieldAddr 133 (Operand.tmp 1) 1,none⟩,
 ⟨some 8,Op.load 4 (Operand.tmp 7),none⟩,
 ⟨some 9,Op.fieldAddr 98 (Operand.tmp 3) 1,none⟩,
 ⟨none,Op.store 4 (Operand.tmp 9) (Operand.tmp 8),none⟩])
 (.seq
 (.region [12] false ([]) [
 ⟨some 10,Op.fieldAddr 133 (Operand.tmp 1) 2,none⟩,
 ⟨some 11,Op.load 22 (Operand.tmp 10),none⟩,
 ⟨some 12,Op.call {callee:=Callee.value (Operand.func 39),args:=#[Operand.tmp 11],argTypes:=#[22]},none⟩,
 ⟨some 13,Op.fieldAddr 98 (Operand.tmp 3) 2,none⟩,
 ⟨none,Op.store 22 (Operand.tmp 13) (Operand.tmp 12),none⟩])
 (.seq
 (.region [] false ([]) [
 ⟨some 14,Op.load 98 (Operand.tmp 3),none⟩,
 ⟨none,Op.store 98 (Operand.tmp 2) (Operand.tmp 14),none⟩])
 .ret))))))
theorem toU (r : Ru) (h1 : r.seq.length ≤ 1048576) : CallsF Try.prog 96 [.agg (encRu r)] (.agg (rvU r)) [] := by
  refine callsF_of_wp2 (fn := Try.f96) (k := k96) (fun _ => []) mixed (by kernel_rfl) rfl (by kernel_rfl) (by kernel_rfl) (by kernel_rfl) rfl (by simp [Try.f96]) (by simp [Arg.like]) ?_
  generalize hst : St.enter [.agg (encRu r)] = st0
  have t0 : st0.tm 0 = .agg ((encRu r) |>.map .t) := by rw [← hst]; rfl
  clear hst
  unfold k96
  simp [encRu] at t0
  repeat' (first
   | refine wp2_seq fun K hK => ?_
   | refine M_cons fun K hK => ?_
   | (refine hK _ ?_; clear hK K)
   | refine wp2_region ?_
   | (refine callT_fl (toI _ ?_) (by simp [St.args, St.arg, t0] <;> first | rfl | ((repeat' first | rfl | apply And.intro); first | done | fail)) ?_; omega)
   | simp (maxSteps := 4000000) (disch := omega) [t0])
  simp [Back, rvU]
/-- The code of laws.toRuleS. -/
def k31 : Code1 :=
 (.seq
 (.region [] false ([]) [
 ⟨some 2,Op.assign (Operand.const (Value.slice none 0 0)),none⟩])
 (.seq
 (.region [7] false ([]) [
 ⟨some 5,Op.move (Operand.tmp 0),none⟩,
 ⟨some 6,Op.call {callee:=Callee.builtin Builtin.len,args:=#[Operand.tmp 5],argTypes:=#[57]},none⟩,
 ⟨some 7,Op.makeSlice 65 (Operand.tmp 6) (Operand.tmp 6),none⟩,
 ⟨some 3,Op.assign (Operand.tmp 7),none⟩])
 (.seq
 (.seq
 (.region [] false ([]) [
 ⟨some 4,Op.assign (Operand.const (Value.int IntKind.i64 0)),none⟩])
 (.block 0
 (.loop
 (.seq
 (.seq
 (.region [] false ([]) [
 ⟨some 8,Op.move (Operand.tmp 4),none⟩,
 ⟨some 9,Op.move (Operand.tmp 0),none⟩,
 ⟨some 10,Op.call {callee:=Callee.builtin Builtin.len,args:=#[Operand.tmp 9],argTypes:=#[57]},none⟩,
 ⟨some 11,Op.binOp BinOp.lss 3 (Operand.tmp 8) (Operand.tmp 10) 3,none⟩])
 (.cond (Operand.tmp 11)
 .skip
 (.exit 0)))
 (.seq
 (.block 1
 (.region [20] false ([]) [
 ⟨some 14,Op.move (Operand.tmp 3),none⟩,
 ⟨some 15,Op.move (Operand.tmp 4),none⟩,
 ⟨some 16,Op.move (Operand.tmp 0),none⟩,
 ⟨some 17,Op.move (Operand.tmp 4),none⟩,
 ⟨some 18,Op.indexAddr 57 (Operand.tmp 16) (Operand.tmp 17),none⟩,
 ⟨some 19,Op.load 133 (Operand.tmp 18),none⟩,
 ⟨some 20,Op.call {callee:=Callee.value (Operand.func 96),args:=#[Operand.tmp 19],argTypes:=#[133]},none⟩,
 ⟨some 21,Op.indexAddr 65 (Operand.tmp 14) (Operand.tmp 15),none⟩,
 ⟨none,Op.store 98 (Operand.tmp 21) (Operand.tmp 20),none⟩]))
 (.region [] false ([]) [
 ⟨some 12,Op.move (Operand.tmp 4),none⟩,
 ⟨some 13,Op.binOp BinOp.add 3 (Operand.tmp 12) (Operand.const (Value.int IntKind.i64 1)) 3,none⟩,
 ⟨some 4,Op.assign (Operand.tmp 13),none⟩]))))))
 (.seq
 (.region [] false ([]) [
 ⟨some 22,Op.move (Operand.tmp 3),none⟩,
 ⟨some 2,Op.assign (Operand.tmp 22),none⟩])
 .ret))))
theorem toUs (l : List Ru) (hl : l.length ≤ 1048576) (h1 : ∀ i : Nat, i < l.length → (nth l i).seq.length ≤ 1048576) : CallsF Try.prog 31 [.val (recs encRu l)] (.own 3 (recRow encRu l)) [] := by
  refine callsF_of_wp2 (fn := Try.f31) (k := k31) (fun _ => []) mixed (by kernel_rfl) rfl (by kernel_rfl) (by kernel_rfl) (by kernel_rfl) rfl (by simp [Try.f31]) (by simp [Arg.like]) ?_
  generalize hst : St.enter [.val (recs encRu l)] = st0
  have t0 : st0.tm 0 = .t (recs encRu l) := by rw [← hst]; rfl
  clear hst
  unfold k31
  repeat' (first
   | refine wp2_seq fun K hK => ?_
   | refine M_cons fun K hK => ?_
   | (refine hK _ ?_; clear hK K)
   | refine wp2_block ?_
   | refine wp2_region ?_
   | simp (maxSteps := 4000000) (disch := omega) [t0])
  have hJ : ∀ s : St, s.tm 3 = .row (7, 0) 3 0 l.length → s.ob (7, 0) = some (.row 3 (recRow encRu l)) → K s := by
    intro s s3 o
    repeat' (first
     | refine wp2_seq fun K hK => ?_
     | refine M_cons fun K hK => ?_
     | (refine hK _ ?_; clear hK K)
     | refine wp2_region ?_
     | simp (maxSteps := 4000000) (disch := omega) [s3, o])
    all_goals try (simp [s3, o, Back]; done)
    all_goals simp [Back, s3, o]
  clear hK
  refine wp2_loop (fun n s => ∃ k : Nat, s.tm 0 = .t (recs encRu l) ∧ s.tm 3 = .row (7, 0) 3 0 l.length ∧ s.tm 4 = .t (.v (.int .i64 k)) ∧ s.ob (7, 0) = some (.row 3 (filled (recRow encRu l) k zU)) ∧ k ≤ l.length ∧ n = l.length - k) l.length ?_ ?_
  · refine ⟨0, ?_⟩
    simp [t0]
  · rintro n s ⟨k, s0, s3, s4, o, hk, rfl⟩ K' hK'
    have g1 := h1 k
    by_cases hlt : k < l.length
    · repeat' (first
     | refine wp2_seq fun K hK => ?_
     | refine M_cons fun K hK => ?_
     | (refine hK _ ?_; clear hK K)
     | (refine hX _ ?_; clear hX hY X Y)
     | (refine hY _ ?_; clear hX hY X Y)
     | refine wp2_block ?_
     | refine wp2_region ?_
     | refine wp2_cond fun X Y hX hY => ?_
     | (refine condK_of (fun c => ?_) (fun c => ?_) <;> (try simp [-List.length_eq_zero_iff] at c))
     | (refine callT_fl (toU _ ?_) (by simp [St.args, St.arg, s0, s3, s4, o, encRu, rvU] <;> first | rfl | ((repeat' first | rfl | apply And.intro); first | done | fail)) ?_; omega)
     | simp (maxSteps := 4000000) (disch := omega) [s0, s3, s4, o, encRu, rvU])
      all_goals first
        | omega
        | (refine hK' (l.length - (k + 1)) _ (by omega) ⟨k + 1, ?_⟩
           simp [s0, s3]
           omega)
    · have hkl : k = l.length := by omega
      subst hkl
      repeat' (first
       | refine wp2_seq fun K hK => ?_
       | refine M_cons fun K hK => ?_
       | (refine hK _ ?_; clear hK K)
       | (refine hY _ ?_; clear hX hY X Y)
       | refine wp2_region ?_
       | refine wp2_cond fun X Y hX hY => ?_
       | (refine condK_of (fun c => ?_) (fun c => ?_) <;> (try simp [-List.length_eq_zero_iff] at c))
       | simp (maxSteps := 4000000) (disch := omega) [s0, s3, s4, o])
      all_goals first
        | omega
        | exact hJ _ (by simp [s3]) (by simp [o])
/-! ### comparing -/
/-- The code of laws.eqRule. -/
def k103 : Code1 :=
 (.seq
 (.region [2,3] false ([]) [
 ⟨some 2,Op.box 98 (Operand.tmp 0),none⟩,
 ⟨some 3,Op.box 98 (Operand.tmp 1),none⟩,
 ⟨some 4,Op.assign (Operand.const (Value.bool false)),none⟩])
 (.seq
 (.seq
 (.region [] false ([]) [
 ⟨some 5,Op.fieldAddr 98 (Operand.tmp 2) 0,none⟩,
 ⟨some 6,Op.load 2 (Operand.tmp 5),none⟩,
 ⟨some 7,Op.fieldAddr 98 (Operand.tmp 3) 0,none⟩,
 ⟨some 8,Op.load 2 (Operand.tmp 7),none⟩,
 ⟨some 9,Op.binOp BinOp.neq 2 (Operand.tmp 6) (Operand.tmp 8) 2,none⟩])
 (.cond (Operand.tmp 9)
 (.seq
 (.region [] false ([]) [
 ⟨some 4,Op.assign (Operand.const (Value.bool false)),none⟩])
 .ret)
 .skip))
 (.seq
 (.seq
 (.region [] false ([]) [
 ⟨some 10,Op.fieldAddr 98 (Operand.tmp 2) 1,none⟩,
 ⟨some 11,Op.load 4 (Operand.tmp 10),none⟩,
 ⟨some 12,Op.fieldAddr 98 (Operand.tmp 3) 1,none⟩,
 ⟨some 13,Op.load 4 (Operand.tmp 12),none⟩,
 ⟨some 14,Op.binOp BinOp.neq 4 (Operand.tmp 11) (Operand.tmp 13) 4,none⟩])
 (.cond (Operand.tmp 14)
 (.seq
 (.region [] false ([]) [
 ⟨some 4,Op.assign (Operand.const (Value.bool false)),none⟩])
 .ret)
 .skip))
 (.seq
 (.seq
 (.region [19] false ([]) [
 ⟨some 15,Op.fieldAddr 98 (Operand.tmp 2) 2,none⟩,
 ⟨some 16,Op.load 22 (Operand.tmp 15),none⟩,
 ⟨some 17,Op.fieldAddr 98 (Operand.tmp 3) 2,none⟩,
 ⟨some 18,Op.load 22 (Operand.tmp 17),none⟩,
 ⟨some 19,Op.call {callee:=Callee.value (Operand.func 42),args:=#[Operand.tmp 16,Operand.tmp 18],argTypes:=#[22,22]},none⟩,
 ⟨some 20,Op.unOp UnOp.not 4 (Operand.tmp 19),none⟩])
 (.cond (Operand.tmp 20)
 (.seq
 (.region [] false ([]) [
 ⟨some 4,Op.assign (Operand.const (Value.bool false)),none⟩])
 .ret)
 .skip))
 (.seq
 (.region [] false ([]) [
 ⟨some 4,Op.assign (Operand.const (Value.bool true)),none⟩])
 .ret)))))
theorem eqU (r : Ru) (h1 : r.seq.length ≤ 1048576) : CallsF Try.prog 103 [.agg (encRu r), .agg (encRu r)] (.t (.v (.bool true))) [] := by
  refine callsF_of_wp2 (fn := Try.f103) (k := k103) (fun _ => []) mixed (by kernel_rfl) rfl (by kernel_rfl) (by kernel_rfl) (by kernel_rfl) rfl (by simp [Try.f103]) (by simp [Arg.like]) ?_
  generalize hst : St.enter [.agg (encRu r), .agg (encRu r)] = st0
  have t0 : st0.tm 0 = .agg ((encRu r) |>.map .t) := by rw [← hst]; rfl
  have t1 : st0.tm 1 = .agg ((encRu r) |>.map .t) := by rw [← hst]; rfl
  clear hst
  unfold k103
  simp [encRu] at t0 t1
  repeat' (first
   | refine wp2_seq fun K hK => ?_
   | refine M_cons fun K hK => ?_
   | (refine hK _ ?_; clear hK K)
   | (refine hY _ ?_; clear hX hY X Y)
   | refine wp2_region ?_
   | refine wp2_cond fun X Y hX hY => ?_
   | (refine condK_of (fun c => ?_) (fun c => ?_) <;> (try simp [-List.length_eq_zero_iff] at c))
   | (refine callT_fl (eqI _ _ ?_ ?_) (by simp [St.args, St.arg, t0, t1] <;> first | rfl | ((repeat' first | rfl | apply And.intro); first | done | fail)) ?_; omega; omega)
   | simp (maxSteps := 4000000) (disch := omega) [t0, t1])
  all_goals try (simp [t0, t1, Back]; done)
/-- The code of laws.eqRuleS. -/
def k34 : Code1 :=
 (.seq
 (.region [] false ([]) [
 ⟨some 4,Op.assign (Operand.const (Value.bool false)),none⟩])
 (.seq
 (.seq
 (.region [] false ([]) [
 ⟨some 6,Op.move (Operand.tmp 0),none⟩,
 ⟨some 7,Op.call {callee:=Callee.builtin Builtin.len,args:=#[Operand.tmp 6],argTypes:=#[65]},none⟩,
 ⟨some 8,Op.move (Operand.tmp 1),none⟩,
 ⟨some 9,Op.call {callee:=Callee.builtin Builtin.len,args:=#[Operand.tmp 8],argTypes:=#[65]},none⟩,
 ⟨some 10,Op.binOp BinOp.neq 3 (Operand.tmp 7) (Operand.tmp 9) 3,none⟩])
 (.cond (Operand.tmp 10)
 (.seq
 (.region [] false ([]) [
 ⟨some 4,Op.assign (Operand.const (Value.bool false)),none⟩])
 .ret)
 .skip))
 (.seq
 (.seq
 (.region [] false ([]) [
 ⟨some 5,Op.assign (Operand.const (Value.int IntKind.i64 0)),none⟩])
 (.block 0
 (.loop
 (.seq
 (.seq
 (.region [] false ([]) [
 ⟨some 11,Op.move (Operand.tmp 5),none⟩,
 ⟨some 12,Op.move (Operand.tmp 0),none⟩,
 ⟨some 13,Op.call {callee:=Callee.builtin Builtin.len,args:=#[Operand.tmp 12],argTypes:=#[65]},none⟩,
 ⟨some 14,Op.binOp BinOp.lss 3 (Operand.tmp 11) (Operand.tmp 13) 3,none⟩])
 (.cond (Operand.tmp 14)
 .skip
 (.exit 0)))
 (.seq
 (.block 1
 (.seq
 (.region [25] true ([]) [
 ⟨some 17,Op.move (Operand.tmp 0),none⟩,
 ⟨some 18,Op.move (Operand.tmp 5),none⟩,
 ⟨some 19,Op.indexAddr 65 (Operand.tmp 17) (Operand.tmp 18),none⟩,
 ⟨some 20,Op.load 98 (Operand.tmp 19),none⟩,
 ⟨some 21,Op.move (Operand.tmp 1),none⟩,
 ⟨some 22,Op.move (Operand.tmp 5),none⟩,
 ⟨some 23,Op.indexAddr 65 (Operand.tmp 21) (Operand.tmp 22),none⟩,
 ⟨some 24,Op.load 98 (Operand.tmp 23),none⟩,
 ⟨some 25,Op.call {callee:=Callee.value (Operand.func 103),args:=#[Operand.tmp 20,Operand.tmp 24],argTypes:=#[98,98]},none⟩,
 ⟨some 26,Op.unOp UnOp.not 4 (Operand.tmp 25),none⟩])
 (.cond (Operand.tmp 26)
 (.seq
 (.region [] false ([]) [
 ⟨some 4,Op.assign (Operand.const (Value.bool false)),none⟩])
 .ret)
 .skip)))
 (.region [] false ([]) [
 ⟨some 15,Op.move (Operand.tmp 5),none⟩,
 ⟨some 16,Op.binOp BinOp.add 3 (Operand.tmp 15) (Operand.const (Value.int IntKind.i64 1)) 3,none⟩,
 ⟨some 5,Op.assign (Operand.tmp 16),none⟩]))))))
 (.seq
 (.region [] false ([]) [
 ⟨some 4,Op.assign (Operand.const (Value.bool true)),none⟩])
 .ret))))
theorem eqUs (l : List Ru) (hl : l.length ≤ 1048576) (h1 : ∀ i : Nat, i < l.length → (nth l i).seq.length ≤ 1048576) :
    CallsF Try.prog 34 [.val (recs encRu l), .val (recs encRu l)] (.t (.v (.bool true))) [] := by
  refine callsF_of_wp2 (fn := Try.f34) (k := k34) (fun _ => []) mixed (by kernel_rfl) rfl (by kernel_rfl) (by kernel_rfl) (by kernel_rfl) rfl (by simp [Try.f34]) (by simp [Arg.like]) ?_
  generalize hst : St.enter [.val (recs encRu l), .val (recs encRu l)] = st0
  have t0 : st0.tm 0 = .t (recs encRu l) := by rw [← hst]; rfl
  have t1 : st0.tm 1 = .t (recs encRu l) := by rw [← hst]; rfl
  clear hst
  unfold k34
  repeat' (first
   | refine wp2_seq fun K hK => ?_
   | refine M_cons fun K hK => ?_
   | (refine hK _ ?_; clear hK K)
   | (refine hY _ ?_; clear hX hY X Y)
   | refine wp2_block ?_
   | refine wp2_region ?_
   | refine wp2_cond fun X Y hX hY => ?_
   | (refine condK_of (fun c => ?_) (fun c => ?_) <;> (try simp [-List.length_eq_zero_iff] at c))
   | simp (maxSteps := 4000000) (disch := omega) [t0, t1])
  have hJ : ∀ s, K s := by
    rintro s
    repeat' (first
     | refine wp2_seq fun K hK => ?_
     | refine M_cons fun K hK => ?_
     | (refine hK _ ?_; clear hK K)
     | refine wp2_region ?_
     | simp (maxSteps := 4000000) (disch := omega) [])
    all_goals try (simp [Back]; done)
  clear hK
  refine wp2_loop (fun n s => ∃ k : Nat, s.tm 0 = .t (recs encRu l) ∧ s.tm 1 = .t (recs encRu l) ∧ s.tm 5 = .t (.v (.int .i64 k)) ∧ k ≤ l.length ∧ n = l.length - k) l.length ?_ ?_
  · exact ⟨0, by simp [t0, t1]⟩
  · rintro n s ⟨k, s0, s1, s5, hk, rfl⟩ K' hK'
    have g1 := h1 k
    by_cases hlt : k < l.length
    · repeat' (first
     | refine wp2_seq fun K hK => ?_
     | refine M_cons fun K hK => ?_
     | (refine hK _ ?_; clear hK K)
     | (refine hX _ ?_; clear hX hY X Y)
     | (refine hY _ ?_; clear hX hY X Y)
     | refine wp2_block ?_
     | refine wp2_region ?_
     | refine wp2_cond fun X Y hX hY => ?_
     | (refine condK_of (fun c => ?_) (fun c => ?_) <;> (try simp [-List.length_eq_zero_iff] at c))
     | (refine callT_fl (eqU _ ?_) (by simp [St.args, St.arg, s0, s1, s5, encRu] <;> first | rfl | ((repeat' first | rfl | apply And.intro); first | done | fail)) ?_; omega)
     | simp (maxSteps := 4000000) (disch := omega) [s0, s1, s5, encRu])
      all_goals first
        | omega
        | (refine hK' (l.length - (k + 1)) _ (by omega) ⟨k + 1, ?_⟩
           simp [s0, s1]
           omega)
    · repeat' (first
     | refine wp2_seq fun K hK => ?_
     | refine M_cons fun K hK => ?_
     | (refine hK _ ?_; clear hK K)
     | (refine hX _ ?_; clear hX hY X Y)
     | (refine hY _ ?_; clear hX hY X Y)
     | refine wp2_block ?_
     | refine wp2_region ?_
     | refine wp2_cond fun X Y hX hY => ?_
     | (refine condK_of (fun c => ?_) (fun c => ?_) <;> (try simp [-List.length_eq_zero_iff] at c))
     | simp (maxSteps := 4000000) (disch := omega) [s0, s1, s5])
      all_goals first
        | omega
        | exact hJ _
end Cal

/- Automata in the law: comparing, marks. -/
set_option linter.unusedSimpArgs false
set_option linter.unusedVariables false
namespace Cal
open Go Go.Proofs
set_option maxRecDepth 100000
theorem flat_boolRow (l : List Bool) : ∀ e ∈ boolRow l, ∀ x ∈ e, T.flat x := by
  intro e he x hx
  simp only [boolRow, List.mem_map] at he
  obtain ⟨b, _, rfl⟩ := he
  simp at hx
  subst hx
  trivial
theorem eq_of_rdb' {a b : List Bool} (hl : a.length = b.length) (h : ∀ i : Nat, i < a.length → rdb a i = rdb b i) : a = b := by
  apply List.ext_getElem hl
  intro i h1 h2
  have := h i h1
  unfold rdb at this
  simpa [List.getD_eq_getElem?_getD, h1, h2] using this
/-- The code of laws.eqBoolS. -/
def k156 : Code1 :=
 (.seq
 (.region [] false ([]) [
 ⟨some 4,Op.assign (Operand.const (Value.bool false)),none⟩])
 (.seq
 (.seq
 (.region [] false ([]) [
 ⟨some 6,Op.move (Operand.tmp 0),none⟩,
 ⟨some 7,Op.call {callee:=Callee.builtin Builtin.len,args:=#[Operand.tmp 6],argTypes:=#[59]},none⟩,
 ⟨some 8,Op.move (Operand.tmp 1),none⟩,
 ⟨some 9,Op.call {callee:=Callee.builtin Builtin.len,args:=#[Operand.tmp 8],argTypes:=#[59]},none⟩,
 ⟨some 10,Op.binOp BinOp.neq 3 (Operand.tmp 7) (Operand.tmp 9) 3,none⟩])
 (.cond (Operand.tmp 10)
 (.seq
 (.region [] false ([]) [
 ⟨some 4,Op.assign (Operand.const (Value.bool false)),none⟩])
 .ret)
 .skip))
 (.seq
 (.seq
 (.region [] false ([]) [
 ⟨some 5,Op.assign (Operand.const (Value.int IntKind.i64 0)),none⟩])
 (.block 0
 (.loop
 (.seq
 (.seq
 (.region [] false ([]) [
 ⟨some 11,Op.move (Operand.tmp 5),none⟩,
 ⟨some 12,Op.move (Operand.tmp 0),none⟩,
 ⟨some 13,Op.call {callee:=Callee.builtin Builtin.len,args:=#[Operand.tmp 12],argTypes:=#[59]},none⟩,
 ⟨some 14,Op.binOp BinOp.lss 3 (Operand.tmp 11) (Operand.tmp 13) 3,none⟩])
 (.cond (Operand.tmp 14)
 .skip
 (.exit 0)))
 (.seq
 (.block 1
 (.seq
 (.region [] true ([]) [
 ⟨some 17,Op.move (Operand.tmp 0),none⟩,
 ⟨some 18,Op.move (Operand.tmp 5),none⟩,
 ⟨some 19,Op.indexAddr 59 (Operand.tmp 17) (Operand.tmp 18),none⟩,
 ⟨some 20,Op.load 4 (Operand.tmp 19),none⟩,
 ⟨some 21,Op.move (Operand.tmp 1),none⟩,
 ⟨some 22,Op.move (Operand.tmp 5),none⟩,
 ⟨some 23,Op.indexAddr 59 (Operand.tmp 21) (Operand.tmp 22),none⟩,
 ⟨some 24,Op.load 4 (Operand.tmp 23),none⟩,
 ⟨some 25,Op.binOp BinOp.neq 4 (Operand.tmp 20) (Operand.tmp 24) 4,none⟩])
 (.cond (Operand.tmp 25)
 (.seq
 (.region [] false ([]) [
 ⟨some 4,Op.assign (Operand.const (Value.bool false)),none⟩])
 .ret)
 .skip)))
 (.region [] false ([]) [
 ⟨some 15,Op.move (Operand.tmp 5),none⟩,
 ⟨some 16,Op.binOp BinOp.add 3 (Operand.tmp 15) (Operand.const (Value.int IntKind.i64 1)) 3,none⟩,
 ⟨some 5,Op.assign (Operand.tmp 16),none⟩]))))))
 (.seq
 (.region [] false ([]) [
 ⟨some 4,Op.assign (Operand.const (Value.bool true)),none⟩])
 .ret))))
theorem eqBs (a : List Bool) (ha : a.length ≤ 1048576) :
    CallsF Try.prog 156 [.val (bools a), .val (bools a)] (.t (.v (.bool true))) [] := by
  refine callsF_of_wp2 (fn := Try.f156) (k := k156) (fun _ => []) mixed (by kernel_rfl) rfl (by kernel_rfl) (by kernel_rfl) (by kernel_rfl) rfl (by simp [Try.f156]) (by simp [Arg.like]) ?_
  generalize hst : St.enter [.val (bools a), .val (bools a)] = st0
  have t0 : st0.tm 0 = .t (bools a) := by rw [← hst]; rfl
  have t1 : st0.tm 1 = .t (bools a) := by rw [← hst]; rfl
  clear hst
  unfold k156
  repeat' (first
   | refine wp2_seq fun K hK => ?_
   | refine M_cons fun K hK => ?_
   | (refine hK _ ?_; clear hK K)
   | (refine hY _ ?_; clear hX hY X Y)
   | refine wp2_block ?_
   | refine wp2_region ?_
   | refine wp2_cond fun X Y hX hY => ?_
   | (refine condK_of (fun c => ?_) (fun c => ?_) <;> (try simp [-List.length_eq_zero_iff] at c))
   | simp (maxSteps := 4000000) (disch := omega) [t0, t1])
  have hJ : ∀ s, K s := by
    rintro s
    repeat' (first
     | refine wp2_seq fun K hK => ?_
     | refine M_cons fun K hK => ?_
     | (refine hK _ ?_; clear hK K)
     | refine wp2_region ?_
     | simp (maxSteps := 4000000) (disch := omega) [])
    all_goals try (simp [Back]; done)
  clear hK
  refine wp2_loop (fun n s => ∃ k : Nat, s.tm 0 = .t (bools a) ∧ s.tm 1 = .t (bools a) ∧ s.tm 5 = .t (.v (.int .i64 k)) ∧ k ≤ a.length ∧ n = a.length - k) a.length ?_ ?_
  · exact ⟨0, by simp [t0, t1]⟩
  · rintro n s ⟨k, s0, s1, s5, hk, rfl⟩ K' hK'
    by_cases hlt : k < a.length
    · repeat' (first
     | refine wp2_seq fun K hK => ?_
     | refine M_cons fun K hK => ?_
     | (refine hK _ ?_; clear hK K)
     | (refine hX _ ?_; clear hX hY X Y)
     | (refine hY _ ?_; clear hX hY X Y)
     | refine wp2_block ?_
     | refine wp2_region ?_
     | refine wp2_cond fun X Y hX hY => ?_
     | (refine condK_of (fun c => ?_) (fun c => ?_) <;> (try simp [-List.length_eq_zero_iff] at c))
     | simp (maxSteps := 4000000) (disch := omega) [s0, s1, s5, hlt])
      all_goals first
        | omega
        | (refine hK' (a.length - (k + 1)) _ (by omega) ⟨k + 1, ?_⟩
           simp [s0, s1]
           omega)
    · repeat' (first
     | refine wp2_seq fun K hK => ?_
     | refine M_cons fun K hK => ?_
     | (refine hK _ ?_; clear hK K)
     | (refine hX _ ?_; clear hX hY X Y)
     | (refine hY _ ?_; clear hX hY X Y)
     | refine wp2_block ?_
     | refine wp2_region ?_
     | refine wp2_cond fun X Y hX hY => ?_
     | (refine condK_of (fun c => ?_) (fun c => ?_) <;> (try simp [-List.length_eq_zero_iff] at c))
     | simp (maxSteps := 4000000) (disch := omega) [s0, s1, s5])
      all_goals first
        | omega
        | exact hJ _
theorem eqBsN : CallsF Try.prog 156 [.val (.v (.slice none 0 0)), .val (.v (.slice none 0 0))] (.t (.v (.bool true))) [] := by
  refine callsF_of_wp2 (fn := Try.f156) (k := k156) (fun _ => []) mixed (by kernel_rfl) rfl (by kernel_rfl) (by kernel_rfl) (by kernel_rfl) rfl (by simp [Try.f156]) (by simp [Arg.like]) ?_
  generalize hst : St.enter [.val (.v (.slice none 0 0)), .val (.v (.slice none 0 0))] = st0
  have t0 : st0.tm 0 = .t (.v (.slice none 0 0)) := by rw [← hst]; rfl
  have t1 : st0.tm 1 = .t (.v (.slice none 0 0)) := by rw [← hst]; rfl
  clear hst
  unfold k156
  repeat' (first
   | refine wp2_seq fun K hK => ?_
   | refine M_cons fun K hK => ?_
   | (refine hK _ ?_; clear hK K)
   | (refine hY _ ?_; clear hX hY X Y)
   | refine wp2_block ?_
   | refine wp2_region ?_
   | refine wp2_cond fun X Y hX hY => ?_
   | (refine condK_of (fun c => ?_) (fun c => ?_) <;> (try simp [-List.length_eq_zero_iff] at c))
   | simp (maxSteps := 4000000) (disch := omega) [t0, t1])
  have hJ : ∀ s, K s := by
    intro s
    repeat' (first
     | refine wp2_seq fun K hK => ?_
     | refine M_cons fun K hK => ?_
     | (refine hK _ ?_; clear hK K)
     | refine wp2_region ?_
     | simp (maxSteps := 4000000) (disch := omega) [])
    all_goals try (simp [Back]; done)
  clear hK
  refine wp2_loop (fun n s => s.tm 0 = .t (.v (.slice none 0 0)) ∧ s.tm 5 = .t (.v (.int .i64 0)) ∧ n = 0) 0 ?_ ?_
  · simp [t0, t1]
  · rintro n s ⟨s0, s5, rfl⟩ K' hK'
    repeat' (first
     | refine wp2_seq fun K hK => ?_
     | refine M_cons fun K hK => ?_
     | (refine hK _ ?_; clear hK K)
     | (refine hY _ ?_; clear hX hY X Y)
     | refine wp2_region ?_
     | refine wp2_cond fun X Y hX hY => ?_
     | (refine condK_of (fun c => ?_) (fun c => ?_) <;> (try simp [-List.length_eq_zero_iff] at c))
     | simp (maxSteps := 4000000) (disch := omega) [s0, s5])
    exact hJ _
theorem eqIsN : CallsF Try.prog 42 [.val (.v (.slice none 0 0)), .val (.v (.slice none 0 0))] (.t (.v (.bool true))) [] := by
  refine callsF_of_wp2 (fn := Try.f42) (k := k42) (fun _ => []) mixed (by kernel_rfl) rfl (by kernel_rfl) (by kernel_rfl) (by kernel_rfl) rfl (by simp [Try.f42]) (by simp [Arg.like]) ?_
  generalize hst : St.enter [.val (.v (.slice none 0 0)), .val (.v (.slice none 0 0))] = st0
  have t0 : st0.tm 0 = .t (.v (.slice none 0 0)) := by rw [← hst]; rfl
  have t1 : st0.tm 1 = .t (.v (.slice none 0 0)) := by rw [← hst]; rfl
  clear hst
  unfold k42
  repeat' (first
   | refine wp2_seq fun K hK => ?_
   | refine M_cons fun K hK => ?_
   | (refine hK _ ?_; clear hK K)
   | (refine hY _ ?_; clear hX hY X Y)
   | refine wp2_block ?_
   | refine wp2_region ?_
   | refine wp2_cond fun X Y hX hY => ?_
   | (refine condK_of (fun c => ?_) (fun c => ?_) <;> (try simp [-List.length_eq_zero_iff] at c))
   | simp (maxSteps := 4000000) (disch := omega) [t0, t1])
  have hJ : ∀ s, K s := by
    intro s
    repeat' (first
     | refine wp2_seq fun K hK => ?_
     | refine M_cons fun K hK => ?_
     | (refine hK _ ?_; clear hK K)
     | refine wp2_region ?_
     | simp (maxSteps := 4000000) (disch := omega) [])
    all_goals try (simp [Back]; done)
  clear hK
  refine wp2_loop (fun n s => s.tm 0 = .t (.v (.slice none 0 0)) ∧ s.tm 5 = .t (.v (.int .i64 0)) ∧ n = 0) 0 ?_ ?_
  · simp [t0, t1]
  · rintro n s ⟨s0, s5, rfl⟩ K' hK'
    repeat' (first
     | refine wp2_seq fun K hK => ?_
     | refine M_cons fun K hK => ?_
     | (refine hK _ ?_; clear hK K)
     | (refine hY _ ?_; clear hX hY X Y)
     | refine wp2_region ?_
     | refine wp2_cond fun X Y hX hY => ?_
     | (refine condK_of (fun c => ?_) (fun c => ?_) <;> (try simp [-List.length_eq_zero_iff] at c))
     | simp (maxSteps := 4000000) (disch := omega) [s0, s5])
    exact hJ _
/-- What is written on Booleans. -/
def markedB (k : Int) (n : Nat) : List Bool := (List.range n).map fun (i : Nat) => (k + (i : Int)).tmod 3 == 0
@[simp] theorem markedB_length (k : Int) (n : Nat) : (markedB k n).length = n := by simp [markedB]
theorem rdb_marked {k : Int} {n i : Nat} (h : i < n) : rdb (markedB k n) i = ((k + (i : Int)).tmod 3 == 0) := by
  unfold rdb markedB
  simp [List.getD_eq_getElem?_getD, h]
theorem rdb_set_eq' {l : List Bool} {i : Nat} {x : Bool} (h : i < l.length) : rdb (l.set i x) i = x := by
  unfold rdb
  simp [List.getD_eq_getElem?_getD, h]
theorem rdb_set_ne' {l : List Bool} {i j : Nat} {x : Bool} (h : i ≠ j) : rdb (l.set j x) i = rdb l i := by
  unfold rdb
  have : ¬ j = i := fun e => h e.symm
  simp [List.getD_eq_getElem?_getD, List.getElem?_set, this]
@[simp] theorem boolRow_setB (l : List Bool) (i : Nat) (x : Bool) : (boolRow l).set i [.v (.bool x)] = boolRow (l.set i x) := by simp [boolRow, List.map_set]
/-- The code of laws.markBoolS. -/
def k157 : Code1 :=
 (.seq
 (.region [] false ([]) [
 ⟨some 4,Op.assign (Operand.const (Value.int IntKind.i64 0)),none⟩])
 (.seq
 (.seq
 (.region [] false ([]) [
 ⟨some 5,Op.assign (Operand.const (Value.int IntKind.i64 0)),none⟩])
 (.block 0
 (.loop
 (.seq
 (.seq
 (.region [] false ([]) [
 ⟨some 6,Op.move (Operand.tmp 5),none⟩,
 ⟨some 7,Op.move (Operand.tmp 0),none⟩,
 ⟨some 8,Op.call {callee:=Callee.builtin Builtin.len,args:=#[Operand.tmp 7],argTypes:=#[59]},none⟩,
 ⟨some 9,Op.binOp BinOp.lss 3 (Operand.tmp 6) (Operand.tmp 8) 3,none⟩])
 (.cond (Operand.tmp 9)
 .skip
 (.exit 0)))
 (.seq
 (.block 1
 (.seq
 (.region [] false ([]) [
 ⟨some 12,Op.move (Operand.tmp 0),none⟩,
 ⟨some 13,Op.move (Operand.tmp 5),none⟩,
 ⟨some 14,Op.move (Operand.tmp 1),none⟩,
 ⟨some 15,Op.binOp BinOp.rem 3 (Operand.tmp 14) (Operand.const (Value.int IntKind.i64 3)) 3,none⟩,
 ⟨some 16,Op.binOp BinOp.eql 3 (Operand.tmp 15) (Operand.const (Value.int IntKind.i64 0)) 3,none⟩,
 ⟨some 17,Op.indexAddr 59 (Operand.tmp 12) (Operand.tmp 13),none⟩,
 ⟨none,Op.store 4 (Operand.tmp 17) (Operand.tmp 16),none⟩])
 (.region [] false ([]) [
 ⟨some 18,Op.move (Operand.tmp 1),none⟩,
 ⟨some 19,Op.binOp BinOp.add 3 (Operand.tmp 18) (Operand.const (Value.int IntKind.i64 1)) 3,none⟩,
 ⟨some 1,Op.assign (Operand.tmp 19),none⟩])))
 (.region [] false ([]) [
 ⟨some 10,Op.move (Operand.tmp 5),none⟩,
 ⟨some 11,Op.binOp BinOp.add 3 (Operand.tmp 10) (Operand.const (Value.int IntKind.i64 1)) 3,none⟩,
 ⟨some 5,Op.assign (Operand.tmp 11),none⟩]))))))
 (.seq
 (.region [] false ([]) [
 ⟨some 20,Op.move (Operand.tmp 1),none⟩,
 ⟨some 4,Op.assign (Operand.tmp 20),none⟩])
 .ret)))
theorem markBs (l : List Bool) (k : Int) (h0 : 0 ≤ k) (h1 : k ≤ 1000000000) (h2 : l.length ≤ 1048576) :
    CallsF Try.prog 157 [.mrow 1 (boolRow l), .val (.v (.int .i64 k))] (.t (.v (.int .i64 (k + l.length)))) [some (.mrow 1 (boolRow (markedB k l.length)))] := by
  refine callsF_of_wp2 (fn := Try.f157) (k := k157) (fun _ => []) mixed (by kernel_rfl) rfl (by kernel_rfl) (by kernel_rfl) (by kernel_rfl) rfl (by simp [Try.f157]) (by simp [Arg.like]) ?_
  generalize hst : St.enter [.mrow 1 (boolRow l), .val (.v (.int .i64 k))] = st0
  have t0 : st0.tm 0 = .row (100000, 0) 1 0 ((boolRow l)).length := by rw [← hst]; rfl
  have o0 : st0.ob (100000, 0) = some (.row 1 (boolRow l)) := by rw [← hst]; rfl
  have t1 : st0.tm 1 = .t (.v (.int .i64 k)) := by rw [← hst]; rfl
  clear hst
  unfold k157
  simp at t0
  repeat' (first
   | refine wp2_seq fun K hK => ?_
   | refine M_cons fun K hK => ?_
   | (refine hK _ ?_; clear hK K)
   | refine wp2_block ?_
   | refine wp2_region ?_
   | simp (maxSteps := 4000000) (disch := omega) [t0, o0, t1])
  have hJ : ∀ s, s.tm 1 = .t (.v (.int .i64 (k + l.length))) → s.ob (100000, 0) = some (.row 1 (boolRow (markedB k l.length))) → K s := by
    intro s s1 o
    have hb : base = 100000 := rfl
    repeat' (first
     | refine wp2_seq fun K hK => ?_
     | refine M_cons fun K hK => ?_
     | (refine hK _ ?_; clear hK K)
     | refine wp2_region ?_
     | simp (maxSteps := 4000000) (disch := omega) [s1, o, hb])
    all_goals try (simp [s1, o, hb, Back]; done)
    all_goals simp [Back, s1, o, hb]
  clear hK
  refine wp2_loop (fun n s => ∃ (j : Nat) (xs : List Bool), s.tm 0 = .row (100000, 0) 1 0 l.length ∧ s.ob (100000, 0) = some (.row 1 (boolRow xs)) ∧ xs.length = l.length ∧ s.tm 5 = .t (.v (.int .i64 j)) ∧ s.tm 1 = .t (.v (.int .i64 (k + j))) ∧ j ≤ l.length ∧ n = l.length - j ∧ ∀ i < j, rdb xs i = ((k + (i : Int)).tmod 3 == 0)) l.length ?_ ?_
  · exact ⟨0, l, by simp [t0, o0, t1]⟩
  · rintro n s ⟨j, xs, s0, o, hx, s5, s1, hj, rfl, hq⟩ K' hK'
    by_cases hlt : j < l.length
    · have hg : (boolRow xs)[j]? = some [.v (.bool (rdb xs j))] := by
        have := boolRow_get (l := xs) (i := j) (by omega)
        rw [this]
        simp [rdb]
      repeat' (first
       | refine wp2_seq fun K hK => ?_
       | refine M_cons fun K hK => ?_
       | (refine hK _ ?_; clear hK K)
       | (refine hX _ ?_; clear hX hY X Y)
       | refine wp2_block ?_
       | refine wp2_region ?_
       | refine wp2_cond fun X Y hX hY => ?_
       | (refine condK_of (fun c => ?_) (fun c => ?_) <;> (try simp [-List.length_eq_zero_iff] at c))
       | simp (maxSteps := 4000000) (disch := omega) [s0, o, s5, s1, hx, hlt, hg])
      all_goals first | omega | skip
      refine hK' (l.length - (j + 1)) _ (by omega) ⟨j + 1, xs.set j ((k + (j : Int)).tmod 3 == 0), ?_⟩
      simp [s0, hx]
      refine ⟨by omega, by omega, below_succ (p := fun i : Nat => rdb (xs.set j ((k + (j : Int)).tmod 3 == 0)) i = ((k + (i : Int)).tmod 3 == 0)) (fun i hi => ?_) (rdb_set_eq' (by omega))⟩
      rw [rdb_set_ne' (by omega)]
      exact hq i hi
    · have hjl : j = l.length := by omega
      repeat' (first
       | refine wp2_seq fun K hK => ?_
       | refine M_cons fun K hK => ?_
       | (refine hK _ ?_; clear hK K)
       | (refine hX _ ?_; clear hX hY X Y)
       | (refine hY _ ?_; clear hX hY X Y)
       | refine wp2_block ?_
       | refine wp2_region ?_
       | refine wp2_cond fun X Y hX hY => ?_
       | (refine condK_of (fun c => ?_) (fun c => ?_) <;> (try simp [-List.length_eq_zero_iff] at c))
       | simp (maxSteps := 4000000) (disch := omega) [s0, o, s5, s1, hx])
      all_goals first | omega | skip
      refine hJ _ ?_ ?_
      · simp [s1, hjl]
      · simp [o]
        rw [eq_of_rdb' (a := xs) (b := markedB k l.length) (by simp [hx]) fun i hi => by rw [hq i (by omega), rdb_marked (by omega)]]
/-- The code of laws.heldBoolS. -/
def k158 : Code1 :=
 (.seq
 (.region [] false ([]) [
 ⟨some 4,Op.assign (Operand.const (Value.int IntKind.i64 0)),none⟩])
 (.seq
 (.seq
 (.region [] false ([]) [
 ⟨some 5,Op.assign (Operand.const (Value.int IntKind.i64 0)),none⟩])
 (.block 0
 (.loop
 (.seq
 (.seq
 (.region [] false ([]) [
 ⟨some 6,Op.move (Operand.tmp 5),none⟩,
 ⟨some 7,Op.move (Operand.tmp 0),none⟩,
 ⟨some 8,Op.call {callee:=Callee.builtin Builtin.len,args:=#[Operand.tmp 7],argTypes:=#[59]},none⟩,
 ⟨some 9,Op.binOp BinOp.lss 3 (Operand.tmp 6) (Operand.tmp 8) 3,none⟩])
 (.cond (Operand.tmp 9)
 .skip
 (.exit 0)))
 (.seq
 (.block 1
 (.seq
 (.seq
 (.region [] false ([]) [
 ⟨some 12,Op.move (Operand.tmp 0),none⟩,
 ⟨some 13,Op.move (Operand.tmp 5),none⟩,
 ⟨some 14,Op.indexAddr 59 (Operand.tmp 12) (Operand.tmp 13),none⟩,
 ⟨some 15,Op.load 4 (Operand.tmp 14),none⟩,
 ⟨some 16,Op.move (Operand.tmp 1),none⟩,
 ⟨some 17,Op.binOp BinOp.rem 3 (Operand.tmp 16) (Operand.const (Value.int IntKind.i64 3)) 3,none⟩,
 ⟨some 18,Op.binOp BinOp.eql 3 (Operand.tmp 17) (Operand.const (Value.int IntKind.i64 0)) 3,none⟩,
 ⟨some 19,Op.binOp BinOp.neq 4 (Operand.tmp 15) (Operand.tmp 18) 4,none⟩])
 (.cond (Operand.tmp 19)
 (.seq
 (.region [] false ([]) [
 ⟨some 4,Op.assign (Operand.const (Value.int IntKind.i64 (-1))),none⟩])
 .ret)
 .skip))
 (.region [] false ([]) [
 ⟨some 20,Op.move (Operand.tmp 1),none⟩,
 ⟨some 21,Op.binOp BinOp.add 3 (Operand.tmp 20) (Operand.const (Value.int IntKind.i64 1)) 3,none⟩,
 ⟨some 1,Op.assign (Operand.tmp 21),none⟩])))
 (.region [] false ([]) [
 ⟨some 10,Op.move (Operand.tmp 5),none⟩,
 ⟨some 11,Op.binOp BinOp.add 3 (Operand.tmp 10) (Operand.const (Value.int IntKind.i64 1)) 3,none⟩,
 ⟨some 5,Op.assign (Operand.tmp 11),none⟩]))))))
 (.seq
 (.region [] false ([]) [
 ⟨some 22,Op.move (Operand.tmp 1),none⟩,
 ⟨some 4,Op.assign (Operand.tmp 22),none⟩])
 .ret)))
theorem heldBs (n : Nat) (k : Int) (h0 : 0 ≤ k) (h1 : k ≤ 1000000000) (h2 : n ≤ 1048576) :
    CallsF Try.prog 158 [.val (bools (markedB k n)), .val (.v (.int .i64 k))] (.t (.v (.int .i64 (k + n)))) [] := by
  refine callsF_of_wp2 (fn := Try.f158) (k := k158) (fun _ => []) mixed (by kernel_rfl) rfl (by kernel_rfl) (by kernel_rfl) (by kernel_rfl) rfl (by simp [Try.f158]) (by simp [Arg.like]) ?_
  generalize hst : St.enter [.val (bools (markedB k n)), .val (.v (.int .i64 k))] = st0
  have t0 : st0.tm 0 = .t (bools (markedB k n)) := by rw [← hst]; rfl
  have t1 : st0.tm 1 = .t (.v (.int .i64 k)) := by rw [← hst]; rfl
  clear hst
  unfold k158
  have hl : (markedB k n).length = n := markedB_length k n
  repeat' (first
   | refine wp2_seq fun K hK => ?_
   | refine M_cons fun K hK => ?_
   | (refine hK _ ?_; clear hK K)
   | refine wp2_block ?_
   | refine wp2_region ?_
   | simp (maxSteps := 4000000) (disch := omega) [t0, t1])
  have hJ : ∀ s, s.tm 1 = .t (.v (.int .i64 (k + n))) → K s := by
    intro s s1
    repeat' (first
     | refine wp2_seq fun K hK => ?_
     | refine M_cons fun K hK => ?_
     | (refine hK _ ?_; clear hK K)
     | refine wp2_region ?_
     | simp (maxSteps := 4000000) (disch := omega) [s1])
    all_goals try (simp [s1, Back]; done)
  clear hK
  refine wp2_loop (fun m s => ∃ j : Nat, s.tm 0 = .t (bools (markedB k n)) ∧ s.tm 5 = .t (.v (.int .i64 j)) ∧ s.tm 1 = .t (.v (.int .i64 (k + j))) ∧ j ≤ n ∧ m = n - j) n ?_ ?_
  · exact ⟨0, by simp [t0, t1]⟩
  · rintro m s ⟨j, s0, s5, s1, hj, rfl⟩ K' hK'
    by_cases hlt : j < n
    · have hr : rdb (markedB k n) j = ((k + (j : Int)).tmod 3 == 0) := rdb_marked hlt
      repeat' (first
       | refine wp2_seq fun K hK => ?_
       | refine M_cons fun K hK => ?_
       | (refine hK _ ?_; clear hK K)
       | (refine hX _ ?_; clear hX hY X Y)
       | (refine hY _ ?_; clear hX hY X Y)
       | refine wp2_block ?_
       | refine wp2_region ?_
       | refine wp2_cond fun X Y hX hY => ?_
       | (refine condK_of (fun c => ?_) (fun c => ?_) <;> (try simp [-List.length_eq_zero_iff] at c))
       | simp (maxSteps := 4000000) (disch := omega) [s0, s5, s1, hlt, hr])
      all_goals first
        | omega
        | (refine hK' (n - (j + 1)) _ (by omega) ⟨j + 1, ?_⟩; simp [s0]; omega)
        | skip
    · have hjn : j = n := by omega
      repeat' (first
       | refine wp2_seq fun K hK => ?_
       | refine M_cons fun K hK => ?_
       | (refine hK _ ?_; clear hK K)
       | (refine hX _ ?_; clear hX hY X Y)
       | (refine hY _ ?_; clear hX hY X Y)
       | refine wp2_block ?_
       | refine wp2_region ?_
       | refine wp2_cond fun X Y hX hY => ?_
       | (refine condK_of (fun c => ?_) (fun c => ?_) <;> (try simp [-List.length_eq_zero_iff] at c))
       | simp (maxSteps := 4000000) (disch := omega) [s0, s5, s1])
      all_goals first
        | omega
        | (refine hJ _ ?_
           simp [s1, hjn])
        | skip
/-! ### automata -/
def boT (c : Int) (a b d e : List Int) (f : List Bool) : List T := [.v (.int .i64 c), ints a, ints b, ints d, ints e, bools f]
def boN (c : Int) : List T := [.v (.int .i64 c), .v (.slice none 0 0), .v (.slice none 0 0), .v (.slice none 0 0), .v (.slice none 0 0), .v (.slice none 0 0)]
section
variable {a b d e : List Int} {f : List Bool} (c : Int) (la : a.length ≤ 2000) (lb : b.length ≤ 2000) (ld : d.length ≤ 2000) (le : e.length ≤ 2000) (lf : f.length ≤ 2000)
include la lb ld le lf
/-- The code of laws.eqAuto. -/
def k102 : Code1 :=
 (.seq
 (.region [2,3] false ([]) [
 ⟨some 2,Op.box 61 (Operand.tmp 0),none⟩,
 ⟨some 3,Op.box 61 (Operand.tmp 1),none⟩,
 ⟨some 4,Op.assign (Operand.const (Value.bool false)),none⟩])
 (.seq
 (.seq
 (.region [9] false ([]) [
 ⟨some 5,Op.fieldAddr 61 (Operand.tmp 2) 0,none⟩,
 ⟨some 6,Op.load 22 (Operand.tmp 5),none⟩,
 ⟨some 7,Op.fieldAddr 61 (Operand.tmp 3) 0,none⟩,
 ⟨some 8,Op.load 22 (Operand.tmp 7),none⟩,
 ⟨some 9,Op.call {callee:=Callee.value (Operand.func 42),args:=#[Operand.tmp 6,Operand.tmp 8],argTypes:=#[22,22]},none⟩,
 ⟨some 10,Op.unOp UnOp.not 4 (Operand.tmp 9),none⟩])
 (.cond (Operand.tmp 10)
 (.seq
 (.region [] false ([]) [
 ⟨some 4,Op.assign (Operand.const (Value.bool false)),none⟩])
 .ret)
 .skip))
 (.seq
 (.seq
 (.region [15] false ([]) [
 ⟨some 11,Op.fieldAddr 61 (Operand.tmp 2) 1,none⟩,
 ⟨some 12,Op.load 22 (Operand.tmp 11),none⟩,
 ⟨some 13,Op.fieldAddr 61 (Operand.tmp 3) 1,none⟩,
 ⟨some 14,Op.load 22 (Operand.tmp 13),none⟩,
 ⟨some 15,Op.call {callee:=Callee.value (Operand.func 42),args:=#[Operand.tmp 12,Operand.tmp 14],argTypes:=#[22,22]},none⟩,
 ⟨some 16,Op.unOp UnOp.not 4 (Operand.tmp 15),none⟩])
 (.cond (Operand.tmp 16)
 (.seq
 (.region [] false ([]) [
 ⟨some 4,Op.assign (Operand.const (Value.bool false)),none⟩])
 .ret)
 .skip))
 (.seq
 (.seq
 (.region [21] false ([]) [
 ⟨some 17,Op.fieldAddr 61 (Operand.tmp 2) 2,none⟩,
 ⟨some 18,Op.load 22 (Operand.tmp 17),none⟩,
 ⟨some 19,Op.fieldAddr 61 (Operand.tmp 3) 2,none⟩,
 ⟨some 20,Op.load 22 (Operand.tmp 19),none⟩,
 ⟨some 21,Op.call {callee:=Callee.value (Operand.func 42),args:=#[Operand.tmp 18,Operand.tmp 20],argTypes:=#[22,22]},none⟩,
 ⟨some 22,Op.unOp UnOp.not 4 (Operand.tmp 21),none⟩])
 (.cond (Operand.tmp 22)
 (.seq
 (.region [] false ([]) [
 ⟨some 4,Op.assign (Operand.const (Value.bool false)),none⟩])
 .ret)
 .skip))
 (.seq
 (.seq
 (.region [27] false ([]) [
 ⟨some 23,Op.fieldAddr 61 (Operand.tmp 2) 3,none⟩,
 ⟨some 24,Op.load 22 (Operand.tmp 23),none⟩,
 ⟨some 25,Op.fieldAddr 61 (Operand.tmp 3) 3,none⟩,
 ⟨some 26,Op.load 22 (Operand.tmp 25),none⟩,
 ⟨some 27,Op.call {callee:=Callee.value (Operand.func 42),args:=#[Operand.tmp 24,Operand.tmp 26],argTypes:=#[22,22]},none⟩,
 ⟨some 28,Op.unOp UnOp.not 4 (Operand.tmp 27),none⟩])
 (.cond (Operand.tmp 28)
 (.seq
 (.region [] false ([]) [
 ⟨some 4,Op.assign (Operand.const (Value.bool false)),none⟩])
 .ret)
 .skip))
 (.seq
 (.seq
 (.region [33] false ([]) [
 ⟨some 29,Op.fieldAddr 61 (Operand.tmp 2) 4,none⟩,
 ⟨some 30,Op.load 59 (Operand.tmp 29),none⟩,
 ⟨some 31,Op.fieldAddr 61 (Operand.tmp 3) 4,none⟩,
 ⟨some 32,Op.load 59 (Operand.tmp 31),none⟩,
 ⟨some 33,Op.call {callee:=Callee.value (Operand.func 156),args:=#[Operand.tmp 30,Operand.tmp 32],argTypes:=#[59,59]},none⟩,
 ⟨some 34,Op.unOp UnOp.not 4 (Operand.tmp 33),none⟩])
 (.cond (Operand.tmp 34)
 (.seq
 (.region [] false ([]) [
 ⟨some 4,Op.assign (Operand.const (Value.bool false)),none⟩])
 .ret)
 .skip))
 (.seq
 (.region [] false ([]) [
 ⟨some 4,Op.assign (Operand.const (Value.bool true)),none⟩])
 .ret)))))))
set_option maxHeartbeats 0 in
theorem eqAu_c : CallsF Try.prog 102 [.agg [ints a, ints b, ints d, ints e, bools f], .agg [ints a, ints b, ints d, ints e, bools f]] (.t (.v (.bool true))) [] := by
  refine callsF_of_wp2 (fn := Try.f102) (k := k102) (fun _ => []) mixed (by kernel_rfl) rfl (by kernel_rfl) (by kernel_rfl) (by kernel_rfl) rfl (by simp [Try.f102]) (by simp [Arg.like]) ?_
  generalize hst : St.enter [.agg [ints a, ints b, ints d, ints e, bools f], .agg [ints a, ints b, ints d, ints e, bools f]] = st0
  have t0 : st0.tm 0 = .agg ([ints a, ints b, ints d, ints e, bools f] |>.map .t) := by rw [← hst]; rfl
  have t1 : st0.tm 1 = .agg ([ints a, ints b, ints d, ints e, bools f] |>.map .t) := by rw [← hst]; rfl
  clear hst
  unfold k102
  have g5 := eqBs f (by omega)
  repeat' (first
   | refine wp2_seq fun K hK => ?_
   | refine M_cons fun K hK => ?_
   | (refine hK _ ?_; clear hK K)
   | (refine hY _ ?_; clear hX hY X Y)
   | refine wp2_region ?_
   | refine wp2_cond fun X Y hX hY => ?_
   | (refine condK_of (fun c => ?_) (fun c => ?_) <;> (try simp [-List.length_eq_zero_iff] at c))
   | (refine callT_fl (eqI _ _ ?_ ?_) (by simp [St.args, St.arg, t0, t1] <;> first | rfl | ((repeat' first | rfl | apply And.intro); first | done | fail)) ?_; omega; omega)
   | (refine callT_fl (g5) (by simp [St.args, St.arg, t0, t1] <;> first | rfl | ((repeat' first | rfl | apply And.intro); first | done | fail)) ?_)
   | simp (maxSteps := 4000000) (disch := omega) [t0, t1])
  all_goals try (simp [t0, t1, Back]; done)
/-- The code of laws.eqBuilt. -/
def k33 : Code1 :=
 (.seq
 (.region [2,3] false ([]) [
 ⟨some 2,Op.box 63 (Operand.tmp 0),none⟩,
 ⟨some 3,Op.box 63 (Operand.tmp 1),none⟩,
 ⟨some 4,Op.assign (Operand.const (Value.bool false)),none⟩])
 (.seq
 (.seq
 (.region [] false ([]) [
 ⟨some 5,Op.fieldAddr 63 (Operand.tmp 2) 0,none⟩,
 ⟨some 6,Op.load 2 (Operand.tmp 5),none⟩,
 ⟨some 7,Op.fieldAddr 63 (Operand.tmp 3) 0,none⟩,
 ⟨some 8,Op.load 2 (Operand.tmp 7),none⟩,
 ⟨some 9,Op.binOp BinOp.neq 2 (Operand.tmp 6) (Operand.tmp 8) 2,none⟩])
 (.cond (Operand.tmp 9)
 (.seq
 (.region [] false ([]) [
 ⟨some 4,Op.assign (Operand.const (Value.bool false)),none⟩])
 .ret)
 .skip))
 (.seq
 (.seq
 (.region [14] false ([]) [
 ⟨some 10,Op.fieldAddr 63 (Operand.tmp 2) 1,none⟩,
 ⟨some 11,Op.load 61 (Operand.tmp 10),none⟩,
 ⟨some 12,Op.fieldAddr 63 (Operand.tmp 3) 1,none⟩,
 ⟨some 13,Op.load 61 (Operand.tmp 12),none⟩,
 ⟨some 14,Op.call {callee:=Callee.value (Operand.func 102),args:=#[Operand.tmp 11,Operand.tmp 13],argTypes:=#[61,61]},none⟩,
 ⟨some 15,Op.unOp UnOp.not 4 (Operand.tmp 14),none⟩])
 (.cond (Operand.tmp 15)
 (.seq
 (.region [] false ([]) [
 ⟨some 4,Op.assign (Operand.const (Value.bool false)),none⟩])
 .ret)
 .skip))
 (.seq
 (.region [] false ([]) [
 ⟨some 4,Op.assign (Operand.const (Value.bool true)),none⟩])
 .ret))))
theorem eqBo_c : CallsF Try.prog 33 [.agg (boT c a b d e f), .agg (boT c a b d e f)] (.t (.v (.bool true))) [] := by
  refine callsF_of_wp2 (fn := Try.f33) (k := k33) (fun _ => []) mixed (by kernel_rfl) rfl (by kernel_rfl) (by kernel_rfl) (by kernel_rfl) rfl (by simp [Try.f33]) (by simp [Arg.like]) ?_
  generalize hst : St.enter [.agg (boT c a b d e f), .agg (boT c a b d e f)] = st0
  have t0 : st0.tm 0 = .agg ((boT c a b d e f) |>.map .t) := by rw [← hst]; rfl
  have t1 : st0.tm 1 = .agg ((boT c a b d e f) |>.map .t) := by rw [← hst]; rfl
  clear hst
  unfold k33
  have g := eqAu_c la lb ld le lf
  simp [boT] at t0 t1
  repeat' (first
   | refine wp2_seq fun K hK => ?_
   | refine M_cons fun K hK => ?_
   | (refine hK _ ?_; clear hK K)
   | (refine hY _ ?_; clear hX hY X Y)
   | refine wp2_region ?_
   | refine wp2_cond fun X Y hX hY => ?_
   | (refine condK_of (fun c => ?_) (fun c => ?_) <;> (try simp [-List.length_eq_zero_iff] at c))
   | (refine callT_fl (g) (by simp [St.args, St.arg, t0, t1] <;> first | rfl | ((repeat' first | rfl | apply And.intro); first | done | fail)) ?_)
   | simp (maxSteps := 4000000) (disch := omega) [t0, t1])
  all_goals try (simp [t0, t1, Back]; done)
end
theorem eqAuN : CallsF Try.prog 102 [.agg [.v (.slice none 0 0), .v (.slice none 0 0), .v (.slice none 0 0), .v (.slice none 0 0), .v (.slice none 0 0)], .agg [.v (.slice none 0 0), .v (.slice none 0 0), .v (.slice none 0 0), .v (.slice none 0 0), .v (.slice none 0 0)]] (.t (.v (.bool true))) [] := by
  refine callsF_of_wp2 (fn := Try.f102) (k := k102) (fun _ => []) mixed (by kernel_rfl) rfl (by kernel_rfl) (by kernel_rfl) (by kernel_rfl) rfl (by simp [Try.f102]) (by simp [Arg.like]) ?_
  generalize hst : St.enter [.agg [.v (.slice none 0 0), .v (.slice none 0 0), .v (.slice none 0 0), .v (.slice none 0 0), .v (.slice none 0 0)], .agg [.v (.slice none 0 0), .v (.slice none 0 0), .v (.slice none 0 0), .v (.slice none 0 0), .v (.slice none 0 0)]] = st0
  have t0 : st0.tm 0 = .agg ([.v (.slice none 0 0), .v (.slice none 0 0), .v (.slice none 0 0), .v (.slice none 0 0), .v (.slice none 0 0)] |>.map .t) := by rw [← hst]; rfl
  have t1 : st0.tm 1 = .agg ([.v (.slice none 0 0), .v (.slice none 0 0), .v (.slice none 0 0), .v (.slice none 0 0), .v (.slice none 0 0)] |>.map .t) := by rw [← hst]; rfl
  clear hst
  unfold k102
  repeat' (first
   | refine wp2_seq fun K hK => ?_
   | refine M_cons fun K hK => ?_
   | (refine hK _ ?_; clear hK K)
   | (refine hY _ ?_; clear hX hY X Y)
   | refine wp2_region ?_
   | refine wp2_cond fun X Y hX hY => ?_
   | (refine condK_of (fun c => ?_) (fun c => ?_) <;> (try simp [-List.length_eq_zero_iff] at c))
   | (refine callT_fl (eqIsN) (by simp [St.args, St.arg, t0, t1] <;> first | rfl | ((repeat' first | rfl | apply And.intro); first | done | fail)) ?_)
   | (refine callT_fl (eqBsN) (by simp [St.args, St.arg, t0, t1] <;> first | rfl | ((repeat' first | rfl | apply And.intro); first | done | fail)) ?_)
   | simp (maxSteps := 4000000) (disch := omega) [t0, t1])
  all_goals try (simp [t0, t1, Back]; done)
theorem eqBoN (c : Int) : CallsF Try.prog 33 [.agg (boN c), .agg (boN c)] (.t (.v (.bool true))) [] := by
  refine callsF_of_wp2 (fn := Try.f33) (k := k33) (fun _ => []) mixed (by kernel_rfl) rfl (by kernel_rfl) (by kernel_rfl) (by kernel_rfl) rfl (by simp [Try.f33]) (by simp [Arg.like]) ?_
  generalize hst : St.enter [.agg (boN c), .agg (boN c)] = st0
  have t0 : st0.tm 0 = .agg ((boN c) |>.map .t) := by rw [← hst]; rfl
  have t1 : st0.tm 1 = .agg ((boN c) |>.map .t) := by rw [← hst]; rfl
  clear hst
  unfold k33
  simp [boN] at t0 t1
  repeat' (first
   | refine wp2_seq fun K hK => ?_
   | refine M_cons fun K hK => ?_
   | (refine hK _ ?_; clear hK K)
   | (refine hY _ ?_; clear hX hY X Y)
   | refine wp2_region ?_
   | refine wp2_cond fun X Y hX hY => ?_
   | (refine condK_of (fun c => ?_) (fun c => ?_) <;> (try simp [-List.length_eq_zero_iff] at c))
   | (refine callT_fl (eqAuN) (by simp [St.args, St.arg, t0, t1] <;> first | rfl | ((repeat' first | rfl | apply And.intro); first | done | fail)) ?_)
   | simp (maxSteps := 4000000) (disch := omega) [t0, t1])
  all_goals try (simp [t0, t1, Back]; done)
/-- The code of laws.markAuto. -/
def k104 : Code1 :=
 (.seq
 (.region [2] false ([]) [
 ⟨some 2,Op.box 61 (Operand.tmp 0),none⟩,
 ⟨some 4,Op.assign (Operand.const (Value.int IntKind.i64 0)),none⟩])
 (.seq
 (.region [8] false ([]) [
 ⟨some 5,Op.fieldAddr 61 (Operand.tmp 2) 0,none⟩,
 ⟨some 6,Op.load 22 (Operand.tmp 5),none⟩,
 ⟨some 7,Op.move (Operand.tmp 1),none⟩,
 ⟨some 8,Op.call {callee:=Callee.value (Operand.func 73),args:=#[Operand.tmp 6,Operand.tmp 7],argTypes:=#[22,3]},none⟩,
 ⟨some 1,Op.assign (Operand.tmp 8),none⟩])
 (.seq
 (.region [12] false ([]) [
 ⟨some 9,Op.fieldAddr 61 (Operand.tmp 2) 1,none⟩,
 ⟨some 10,Op.load 22 (Operand.tmp 9),none⟩,
 ⟨some 11,Op.move (Operand.tmp 1),none⟩,
 ⟨some 12,Op.call {callee:=Callee.value (Operand.func 73),args:=#[Operand.tmp 10,Operand.tmp 11],argTypes:=#[22,3]},none⟩,
 ⟨some 1,Op.assign (Operand.tmp 12),none⟩])
 (.seq
 (.region [16] false ([]) [
 ⟨some 13,Op.fieldAddr 61 (Operand.tmp 2) 2,none⟩,
 ⟨some 14,Op.load 22 (Operand.tmp 13),none⟩,
 ⟨some 15,Op.move (Operand.tmp 1),none⟩,
 ⟨some 16,Op.call {callee:=Callee.value (Operand.func 73),args:=#[Operand.tmp 14,Operand.tmp 15],argTypes:=#[22,3]},none⟩,
 ⟨some 1,Op.assign (Operand.tmp 16),none⟩])
 (.seq
 (.region [20] false ([]) [
 ⟨some 17,Op.fieldAddr 61 (Operand.tmp 2) 3,none⟩,
 ⟨some 18,Op.load 22 (Operand.tmp 17),none⟩,
 ⟨some 19,Op.move (Operand.tmp 1),none⟩,
 ⟨some 20,Op.call {callee:=Callee.value (Operand.func 73),args:=#[Operand.tmp 18,Operand.tmp 19],argTypes:=#[22,3]},none⟩,
 ⟨some 1,Op.assign (Operand.tmp 20),none⟩])
 (.seq
 (.region [24] false ([]) [
 ⟨some 21,Op.fieldAddr 61 (Operand.tmp 2) 4,none⟩,
 ⟨some 22,Op.load 59 (Operand.tmp 21),none⟩,
 ⟨some 23,Op.move (Operand.tmp 1),none⟩,
 ⟨some 24,Op.call {callee:=Callee.value (Operand.func 157),args:=#[Operand.tmp 22,Operand.tmp 23],argTypes:=#[59,3]},none⟩,
 ⟨some 1,Op.assign (Operand.tmp 24),none⟩])
 (.seq
 (.region [] false ([]) [
 ⟨some 25,Op.move (Operand.tmp 1),none⟩,
 ⟨some 4,Op.assign (Operand.tmp 25),none⟩])
 .ret)))))))
set_option maxHeartbeats 0 in
theorem markAu (a b d e : List Int) (f : List Bool) (la : a.length ≤ 2000) (lb : b.length ≤ 2000) (ld : d.length ≤ 2000) (le : e.length ≤ 2000) (lf : f.length ≤ 2000) (k : Int) (h0 : 0 ≤ k) (h1 : k ≤ 100000000) :
    CallsFS Try.prog 104 [some 5, none] [.mrow 1 (intRow a), .mrow 1 (intRow b), .mrow 1 (intRow d), .mrow 1 (intRow e), .mrow 1 (boolRow f), .val (.v (.int .i64 k))] (.t (.v (.int .i64 (k + a.length + b.length + d.length + e.length + f.length))))
      [some (.mrow 1 (intRow (marked k a.length))), some (.mrow 1 (intRow (marked (k + a.length) b.length))), some (.mrow 1 (intRow (marked (k + a.length + b.length) d.length))), some (.mrow 1 (intRow (marked (k + a.length + b.length + d.length) e.length))), some (.mrow 1 (boolRow (markedB (k + a.length + b.length + d.length + e.length) f.length)))] := by
  refine callsFS_of_wp2 (fn := Try.f104) (k := k104) (fun _ => []) mixed (by kernel_rfl) rfl (by kernel_rfl) (by kernel_rfl) (by kernel_rfl) rfl (by simp [Try.f104]) (by simp [Arg.like]) ?_
  generalize hst : St.enterS [some 5, none] [.mrow 1 (intRow a), .mrow 1 (intRow b), .mrow 1 (intRow d), .mrow 1 (intRow e), .mrow 1 (boolRow f), .val (.v (.int .i64 k))] = st0
  have t0 : st0.tm 0 = .agg [.row (100000, 0) 1 0 (intRow a).length, .row (100001, 0) 1 0 (intRow b).length, .row (100002, 0) 1 0 (intRow d).length, .row (100003, 0) 1 0 (intRow e).length, .row (100004, 0) 1 0 (boolRow f).length] := by rw [← hst]; rfl
  have t1 : st0.tm 1 = .t (.v (.int .i64 k)) := by rw [← hst]; rfl
  have o0 : st0.ob (100000, 0) = some (.row 1 (intRow a)) := by rw [← hst]; rfl
  have o1 : st0.ob (100001, 0) = some (.row 1 (intRow b)) := by rw [← hst]; rfl
  have o2 : st0.ob (100002, 0) = some (.row 1 (intRow d)) := by rw [← hst]; rfl
  have o3 : st0.ob (100003, 0) = some (.row 1 (intRow e)) := by rw [← hst]; rfl
  have o4 : st0.ob (100004, 0) = some (.row 1 (boolRow f)) := by rw [← hst]; rfl
  clear hst
  unfold k104
  simp at t0
  have hb : base = 100000 := rfl
  have g5 := markBs f (k + a.length + b.length + d.length + e.length) (by omega) (by omega) (by omega)
  repeat' (first
   | refine wp2_seq fun K hK => ?_
   | refine M_cons fun K hK => ?_
   | (refine hK _ ?_; clear hK K)
   | refine wp2_region ?_
   | (refine callT_mrow (markI _ _ ?_ ?_ ?_) (by simp [t0, t1, o0, o1, o2, o3, o4, hb]; rfl) (by first | (simp; done) | omega) rfl (by simp [RV.flat, T.flat]) (by (repeat' first | exact flat_intRow _ | exact flat_boolRow _ | exact flat_byteR _ | exact trivial | constructor | unfold Arg.flats | unfold Arg.flat); first | done | fail) ?_; omega; omega; omega)
   | (refine callT_gen true (g5) (fun _ => ⟨(by first | (simp [RV.flat, RV.flats, T.flat]; done) | ((repeat' first | exact flat_intRow _ | exact flat_boolRow _ | exact flat_byteR _ | exact trivial | constructor | unfold RV.flat | unfold RV.flats); first | done | fail)), (by (repeat' first | exact flat_intRow _ | exact flat_boolRow _ | exact flat_byteR _ | exact trivial | constructor | unfold Arg.flats | unfold Arg.flat); first | done | fail)⟩) (by simp [St.args, St.arg, t0, t1, o0, o1, o2, o3, o4, hb] <;> first | rfl | ((repeat' first | rfl | apply And.intro); first | done | fail)) (by simp [apartArgs, mutsOf, noRow, valsOf]) (by simp) ?_)
   | simp (maxSteps := 4000000) (disch := omega) [t0, t1, o0, o1, o2, o3, o4, hb])
  all_goals try (simp [t0, t1, o0, o1, o2, o3, o4, hb, Back]; done)
end Cal

/- Automata in the law: what was built: marks; rules in line. -/
set_option linter.unusedSimpArgs false
set_option linter.unusedVariables false
namespace Cal
open Go Go.Proofs
set_option maxRecDepth 100000
/-- The code of laws.markBuilt. -/
def k36 : Code1 :=
 (.seq
 (.region [2] false ([]) [
 ⟨some 2,Op.box 63 (Operand.tmp 0),none⟩,
 ⟨some 4,Op.assign (Operand.const (Value.int IntKind.i64 0)),none⟩])
 (.seq
 (.region [8] false ([]) [
 ⟨some 5,Op.fieldAddr 63 (Operand.tmp 2) 1,none⟩,
 ⟨some 6,Op.load 61 (Operand.tmp 5),none⟩,
 ⟨some 7,Op.move (Operand.tmp 1),none⟩,
 ⟨some 8,Op.call {callee:=Callee.value (Operand.func 104),args:=#[Operand.tmp 6,Operand.tmp 7],argTypes:=#[61,3]},none⟩,
 ⟨some 1,Op.assign (Operand.tmp 8),none⟩])
 (.seq
 (.region [] false ([]) [
 ⟨some 9,Op.move (Operand.tmp 1),none⟩,
 ⟨some 4,Op.assign (Operand.tmp 9),none⟩])
 .ret)))
set_option maxHeartbeats 0 in
theorem markBo (c : Int) (a b d e : List Int) (f : List Bool) (la : a.length ≤ 2000) (lb : b.length ≤ 2000) (ld : d.length ≤ 2000) (le : e.length ≤ 2000) (lf : f.length ≤ 2000) (k : Int) (h0 : 0 ≤ k) (h1 : k ≤ 100000000) :
    CallsFS Try.prog 36 [some 6, none] [.val (.v (.int .i64 c)), .mrow 1 (intRow a), .mrow 1 (intRow b), .mrow 1 (intRow d), .mrow 1 (intRow e), .mrow 1 (boolRow f), .val (.v (.int .i64 k))] (.t (.v (.int .i64 (k + a.length + b.length + d.length + e.length + f.length))))
      [some (.mrow 1 (intRow (marked k a.length))), some (.mrow 1 (intRow (marked (k + a.length) b.length))), some (.mrow 1 (intRow (marked (k + a.length + b.length) d.length))), some (.mrow 1 (intRow (marked (k + a.length + b.length + d.length) e.length))), some (.mrow 1 (boolRow (markedB (k + a.length + b.length + d.length + e.length) f.length)))] := by
  refine callsFS_of_wp2 (fn := Try.f36) (k := k36) (fun _ => []) mixed (by kernel_rfl) rfl (by kernel_rfl) (by kernel_rfl) (by kernel_rfl) rfl (by simp [Try.f36]) (by simp [Arg.like]) ?_
  generalize hst : St.enterS [some 6, none] [.val (.v (.int .i64 c)), .mrow 1 (intRow a), .mrow 1 (intRow b), .mrow 1 (intRow d), .mrow 1 (intRow e), .mrow 1 (boolRow f), .val (.v (.int .i64 k))] = st0
  have t0 : st0.tm 0 = .agg [.t (.v (.int .i64 c)), .row (100001, 0) 1 0 (intRow a).length, .row (100002, 0) 1 0 (intRow b).length, .row (100003, 0) 1 0 (intRow d).length, .row (100004, 0) 1 0 (intRow e).length, .row (100005, 0) 1 0 (boolRow f).length] := by rw [← hst]; rfl
  have t1 : st0.tm 1 = .t (.v (.int .i64 k)) := by rw [← hst]; rfl
  have o1 : st0.ob (100001, 0) = some (.row 1 (intRow a)) := by rw [← hst]; rfl
  have o2 : st0.ob (100002, 0) = some (.row 1 (intRow b)) := by rw [← hst]; rfl
  have o3 : st0.ob (100003, 0) = some (.row 1 (intRow d)) := by rw [← hst]; rfl
  have o4 : st0.ob (100004, 0) = some (.row 1 (intRow e)) := by rw [← hst]; rfl
  have o5 : st0.ob (100005, 0) = some (.row 1 (boolRow f)) := by rw [← hst]; rfl
  clear hst
  unfold k36
  simp at t0
  have hb : base = 100000 := rfl
  have g := markAu a b d e f la lb ld le lf k h0 h1
  repeat' (first
   | refine wp2_seq fun K hK => ?_
   | refine M_cons fun K hK => ?_
   | (refine hK _ ?_; clear hK K)
   | refine wp2_region ?_
   | (refine callT_sh true (sh := [some 5, none]) (g) (by simp; rfl) (by simp [St.args, St.arg, t0, t1, o1, o2, o3, o4, o5, hb] <;> first | rfl | ((repeat' first | rfl | apply And.intro); first | done | fail)) (fun _ => ⟨(by first | (simp [RV.flat, RV.flats, T.flat]; done) | ((repeat' first | exact flat_intRow _ | exact flat_boolRow _ | exact flat_byteR _ | exact trivial | constructor | unfold RV.flat | unfold RV.flats); first | done | fail)), (by (repeat' first | exact flat_intRow _ | exact flat_boolRow _ | exact flat_byteR _ | exact trivial | constructor | unfold Arg.flats | unfold Arg.flat); first | done | fail)⟩) (by simp [apartArgs, mutsOf, noRow, valsOf]) (by simp) ?_)
   | simp (maxSteps := 4000000) (disch := omega) [t0, t1, o1, o2, o3, o4, o5, hb])
  all_goals try (simp [t0, t1, o1, o2, o3, o4, o5, hb, Back]; done)
theorem markIsN (k : Int) : CallsF Try.prog 73 [.val (.v (.slice none 0 0)), .val (.v (.int .i64 k))] (.t (.v (.int .i64 k))) [] := by
  refine callsF_of_wp2 (fn := Try.f73) (k := k73) (fun _ => []) mixed (by kernel_rfl) rfl (by kernel_rfl) (by kernel_rfl) (by kernel_rfl) rfl (by simp [Try.f73]) (by simp [Arg.like]) ?_
  generalize hst : St.enter [.val (.v (.slice none 0 0)), .val (.v (.int .i64 k))] = st0
  have t0 : st0.tm 0 = .t (.v (.slice none 0 0)) := by rw [← hst]; rfl
  have t1 : st0.tm 1 = .t (.v (.int .i64 k)) := by rw [← hst]; rfl
  clear hst
  unfold k73
  repeat' (first
   | refine wp2_seq fun K hK => ?_
   | refine M_cons fun K hK => ?_
   | (refine hK _ ?_; clear hK K)
   | refine wp2_block ?_
   | refine wp2_region ?_
   | simp (maxSteps := 4000000) (disch := omega) [t0, t1])
  have hJ : ∀ s, s.tm 1 = .t (.v (.int .i64 k)) → K s := by
    intro s s1
    repeat' (first
     | refine wp2_seq fun K hK => ?_
     | refine M_cons fun K hK => ?_
     | (refine hK _ ?_; clear hK K)
     | refine wp2_region ?_
     | simp (maxSteps := 4000000) (disch := omega) [s1])
    all_goals try (simp [s1, Back]; done)
  clear hK
  refine wp2_loop (fun n s => s.tm 0 = .t (.v (.slice none 0 0)) ∧ s.tm 5 = .t (.v (.int .i64 0)) ∧ s.tm 1 = .t (.v (.int .i64 k)) ∧ n = 0) 0 ?_ ?_
  · simp [t0, t1]
  · rintro n s ⟨s0, s5, s1, rfl⟩ K' hK'
    repeat' (first
     | refine wp2_seq fun K hK => ?_
     | refine M_cons fun K hK => ?_
     | (refine hK _ ?_; clear hK K)
     | (refine hY _ ?_; clear hX hY X Y)
     | refine wp2_region ?_
     | refine wp2_cond fun X Y hX hY => ?_
     | (refine condK_of (fun c => ?_) (fun c => ?_) <;> (try simp [-List.length_eq_zero_iff] at c))
     | simp (maxSteps := 4000000) (disch := omega) [s0, s5, s1])
    exact hJ _ (by simp [s1])
theorem markBsN (k : Int) : CallsF Try.prog 157 [.val (.v (.slice none 0 0)), .val (.v (.int .i64 k))] (.t (.v (.int .i64 k))) [] := by
  refine callsF_of_wp2 (fn := Try.f157) (k := k157) (fun _ => []) mixed (by kernel_rfl) rfl (by kernel_rfl) (by kernel_rfl) (by kernel_rfl) rfl (by simp [Try.f157]) (by simp [Arg.like]) ?_
  generalize hst : St.enter [.val (.v (.slice none 0 0)), .val (.v (.int .i64 k))] = st0
  have t0 : st0.tm 0 = .t (.v (.slice none 0 0)) := by rw [← hst]; rfl
  have t1 : st0.tm 1 = .t (.v (.int .i64 k)) := by rw [← hst]; rfl
  clear hst
  unfold k157
  repeat' (first
   | refine wp2_seq fun K hK => ?_
   | refine M_cons fun K hK => ?_
   | (refine hK _ ?_; clear hK K)
   | refine wp2_block ?_
   | refine wp2_region ?_
   | simp (maxSteps := 4000000) (disch := omega) [t0, t1])
  have hJ : ∀ s, s.tm 1 = .t (.v (.int .i64 k)) → K s := by
    intro s s1
    repeat' (first
     | refine wp2_seq fun K hK => ?_
     | refine M_cons fun K hK => ?_
     | (refine hK _ ?_; clear hK K)
     | refine wp2_region ?_
     | simp (maxSteps := 4000000) (disch := omega) [s1])
    all_goals try (simp [s1, Back]; done)
  clear hK
  refine wp2_loop (fun n s => s.tm 0 = .t (.v (.slice none 0 0)) ∧ s.tm 5 = .t (.v (.int .i64 0)) ∧ s.tm 1 = .t (.v (.int .i64 k)) ∧ n = 0) 0 ?_ ?_
  · simp [t0, t1]
  · rintro n s ⟨s0, s5, s1, rfl⟩ K' hK'
    repeat' (first
     | refine wp2_seq fun K hK => ?_
     | refine M_cons fun K hK => ?_
     | (refine hK _ ?_; clear hK K)
     | (refine hY _ ?_; clear hX hY X Y)
     | refine wp2_region ?_
     | refine wp2_cond fun X Y hX hY => ?_
     | (refine condK_of (fun c => ?_) (fun c => ?_) <;> (try simp [-List.length_eq_zero_iff] at c))
     | simp (maxSteps := 4000000) (disch := omega) [s0, s5, s1])
    exact hJ _ (by simp [s1])
theorem heldIsN (k : Int) : CallsF Try.prog 78 [.val (.v (.slice none 0 0)), .val (.v (.int .i64 k))] (.t (.v (.int .i64 k))) [] := by
  refine callsF_of_wp2 (fn := Try.f78) (k := k78) (fun _ => []) mixed (by kernel_rfl) rfl (by kernel_rfl) (by kernel_rfl) (by kernel_rfl) rfl (by simp [Try.f78]) (by simp [Arg.like]) ?_
  generalize hst : St.enter [.val (.v (.slice none 0 0)), .val (.v (.int .i64 k))] = st0
  have t0 : st0.tm 0 = .t (.v (.slice none 0 0)) := by rw [← hst]; rfl
  have t1 : st0.tm 1 = .t (.v (.int .i64 k)) := by rw [← hst]; rfl
  clear hst
  unfold k78
  repeat' (first
   | refine wp2_seq fun K hK => ?_
   | refine M_cons fun K hK => ?_
   | (refine hK _ ?_; clear hK K)
   | refine wp2_block ?_
   | refine wp2_region ?_
   | simp (maxSteps := 4000000) (disch := omega) [t0, t1])
  have hJ : ∀ s, s.tm 1 = .t (.v (.int .i64 k)) → K s := by
    intro s s1
    repeat' (first
     | refine wp2_seq fun K hK => ?_
     | refine M_cons fun K hK => ?_
     | (refine hK _ ?_; clear hK K)
     | refine wp2_region ?_
     | simp (maxSteps := 4000000) (disch := omega) [s1])
    all_goals try (simp [s1, Back]; done)
  clear hK
  refine wp2_loop (fun n s => s.tm 0 = .t (.v (.slice none 0 0)) ∧ s.tm 5 = .t (.v (.int .i64 0)) ∧ s.tm 1 = .t (.v (.int .i64 k)) ∧ n = 0) 0 ?_ ?_
  · simp [t0, t1]
  · rintro n s ⟨s0, s5, s1, rfl⟩ K' hK'
    repeat' (first
     | refine wp2_seq fun K hK => ?_
     | refine M_cons fun K hK => ?_
     | (refine hK _ ?_; clear hK K)
     | (refine hY _ ?_; clear hX hY X Y)
     | refine wp2_region ?_
     | refine wp2_cond fun X Y hX hY => ?_
     | (refine condK_of (fun c => ?_) (fun c => ?_) <;> (try simp [-List.length_eq_zero_iff] at c))
     | simp (maxSteps := 4000000) (disch := omega) [s0, s5, s1])
    exact hJ _ (by simp [s1])
theorem heldBsN (k : Int) : CallsF Try.prog 158 [.val (.v (.slice none 0 0)), .val (.v (.int .i64 k))] (.t (.v (.int .i64 k))) [] := by
  refine callsF_of_wp2 (fn := Try.f158) (k := k158) (fun _ => []) mixed (by kernel_rfl) rfl (by kernel_rfl) (by kernel_rfl) (by kernel_rfl) rfl (by simp [Try.f158]) (by simp [Arg.like]) ?_
  generalize hst : St.enter [.val (.v (.slice none 0 0)), .val (.v (.int .i64 k))] = st0
  have t0 : st0.tm 0 = .t (.v (.slice none 0 0)) := by rw [← hst]; rfl
  have t1 : st0.tm 1 = .t (.v (.int .i64 k)) := by rw [← hst]; rfl
  clear hst
  unfold k158
  repeat' (first
   | refine wp2_seq fun K hK => ?_
   | refine M_cons fun K hK => ?_
   | (refine hK _ ?_; clear hK K)
   | refine wp2_block ?_
   | refine wp2_region ?_
   | simp (maxSteps := 4000000) (disch := omega) [t0, t1])
  have hJ : ∀ s, s.tm 1 = .t (.v (.int .i64 k)) → K s := by
    intro s s1
    repeat' (first
     | refine wp2_seq fun K hK => ?_
     | refine M_cons fun K hK => ?_
     | (refine hK _ ?_; clear hK K)
     | refine wp2_region ?_
     | simp (maxSteps := 4000000) (disch := omega) [s1])
    all_goals try (simp [s1, Back]; done)
  clear hK
  refine wp2_loop (fun n s => s.tm 0 = .t (.v (.slice none 0 0)) ∧ s.tm 5 = .t (.v (.int .i64 0)) ∧ s.tm 1 = .t (.v (.int .i64 k)) ∧ n = 0) 0 ?_ ?_
  · simp [t0, t1]
  · rintro n s ⟨s0, s5, s1, rfl⟩ K' hK'
    repeat' (first
     | refine wp2_seq fun K hK => ?_
     | refine M_cons fun K hK => ?_
     | (refine hK _ ?_; clear hK K)
     | (refine hY _ ?_; clear hX hY X Y)
     | refine wp2_region ?_
     | refine wp2_cond fun X Y hX hY => ?_
     | (refine condK_of (fun c => ?_) (fun c => ?_) <;> (try simp [-List.length_eq_zero_iff] at c))
     | simp (maxSteps := 4000000) (disch := omega) [s0, s5, s1])
    exact hJ _ (by simp [s1])
theorem markAuN (k : Int) : CallsF Try.prog 104 [.agg [.v (.slice none 0 0), .v (.slice none 0 0), .v (.slice none 0 0), .v (.slice none 0 0), .v (.slice none 0 0)], .val (.v (.int .i64 k))] (.t (.v (.int .i64 k))) [] := by
  refine callsF_of_wp2 (fn := Try.f104) (k := k104) (fun _ => []) mixed (by kernel_rfl) rfl (by kernel_rfl) (by kernel_rfl) (by kernel_rfl) rfl (by simp [Try.f104]) (by simp [Arg.like]) ?_
  generalize hst : St.enter [.agg [.v (.slice none 0 0), .v (.slice none 0 0), .v (.slice none 0 0), .v (.slice none 0 0), .v (.slice none 0 0)], .val (.v (.int .i64 k))] = st0
  have t0 : st0.tm 0 = .agg ([.v (.slice none 0 0), .v (.slice none 0 0), .v (.slice none 0 0), .v (.slice none 0 0), .v (.slice none 0 0)] |>.map .t) := by rw [← hst]; rfl
  have t1 : st0.tm 1 = .t (.v (.int .i64 k)) := by rw [← hst]; rfl
  clear hst
  unfold k104
  repeat' (first
   | refine wp2_seq fun K hK => ?_
   | refine M_cons fun K hK => ?_
   | (refine hK _ ?_; clear hK K)
   | refine wp2_region ?_
   | (refine callT_fl (markIsN _) (by simp [St.args, St.arg, t0, t1] <;> first | rfl | ((repeat' first | rfl | apply And.intro); first | done | fail)) ?_)
   | (refine callT_fl (markBsN _) (by simp [St.args, St.arg, t0, t1] <;> first | rfl | ((repeat' first | rfl | apply And.intro); first | done | fail)) ?_)
   | simp (maxSteps := 4000000) (disch := omega) [t0, t1])
  all_goals try (simp [t0, t1, Back]; done)
theorem markBoN (c k : Int) : CallsF Try.prog 36 [.agg (boN c), .val (.v (.int .i64 k))] (.t (.v (.int .i64 k))) [] := by
  refine callsF_of_wp2 (fn := Try.f36) (k := k36) (fun _ => []) mixed (by kernel_rfl) rfl (by kernel_rfl) (by kernel_rfl) (by kernel_rfl) rfl (by simp [Try.f36]) (by simp [Arg.like]) ?_
  generalize hst : St.enter [.agg (boN c), .val (.v (.int .i64 k))] = st0
  have t0 : st0.tm 0 = .agg ((boN c) |>.map .t) := by rw [← hst]; rfl
  have t1 : st0.tm 1 = .t (.v (.int .i64 k)) := by rw [← hst]; rfl
  clear hst
  unfold k36
  simp [boN] at t0
  repeat' (first
   | refine wp2_seq fun K hK => ?_
   | refine M_cons fun K hK => ?_
   | (refine hK _ ?_; clear hK K)
   | refine wp2_region ?_
   | (refine callT_fl (markAuN _) (by simp [St.args, St.arg, t0, t1] <;> first | rfl | ((repeat' first | rfl | apply And.intro); first | done | fail)) ?_)
   | simp (maxSteps := 4000000) (disch := omega) [t0, t1])
  all_goals try (simp [t0, t1, Back]; done)
/-- The code of laws.heldAuto. -/
def k105 : Code1 :=
 (.seq
 (.region [2] false ([]) [
 ⟨some 2,Op.box 61 (Operand.tmp 0),none⟩,
 ⟨some 4,Op.assign (Operand.const (Value.int IntKind.i64 0)),none⟩])
 (.seq
 (.region [8] false ([]) [
 ⟨some 5,Op.fieldAddr 61 (Operand.tmp 2) 0,none⟩,
 ⟨some 6,Op.load 22 (Operand.tmp 5),none⟩,
 ⟨some 7,Op.move (Operand.tmp 1),none⟩,
 ⟨some 8,Op.call {callee:=Callee.value (Operand.func 78),args:=#[Operand.tmp 6,Operand.tmp 7],argTypes:=#[22,3]},none⟩,
 ⟨some 1,Op.assign (Operand.tmp 8),none⟩])
 (.seq
 (.seq
 (.region [] false ([]) [
 ⟨some 9,Op.move (Operand.tmp 1),none⟩,
 ⟨some 10,Op.binOp BinOp.lss 3 (Operand.tmp 9) (Operand.const (Value.int IntKind.i64 0)) 3,none⟩])
 (.cond (Operand.tmp 10)
 (.seq
 (.region [] false ([]) [
 ⟨some 4,Op.assign (Operand.const (Value.int IntKind.i64 (-1))),none⟩])
 .ret)
 .skip))
 (.seq
 (.region [14] false ([]) [
 ⟨some 11,Op.fieldAddr 61 (Operand.tmp 2) 1,none⟩,
 ⟨some 12,Op.load 22 (Operand.tmp 11),none⟩,
 ⟨some 13,Op.move (Operand.tmp 1),none⟩,
 ⟨some 14,Op.call {callee:=Callee.value (Operand.func 78),args:=#[Operand.tmp 12,Operand.tmp 13],argTypes:=#[22,3]},none⟩,
 ⟨some 1,Op.assign (Operand.tmp 14),none⟩])
 (.seq
 (.seq
 (.region [] false ([]) [
 ⟨some 15,Op.move (Operand.tmp 1),none⟩,
 ⟨some 16,Op.binOp BinOp.lss 3 (Operand.tmp 15) (Operand.const (Value.int IntKind.i64 0)) 3,none⟩])
 (.cond (Operand.tmp 16)
 (.seq
 (.region [] false ([]) [
 ⟨some 4,Op.assign (Operand.const (Value.int IntKind.i64 (-1))),none⟩])
 .ret)
 .skip))
 (.seq
 (.region [20] false ([]) [
 ⟨some 17,Op.fieldAddr 61 (Operand.tmp 2) 2,none⟩,
 ⟨some 18,Op.load 22 (Operand.tmp 17),none⟩,
 ⟨some 19,Op.move (Operand.tmp 1),none⟩,
 ⟨some 20,Op.call {callee:=Callee.value (Operand.func 78),args:=#[Operand.tmp 18,Operand.tmp 19],argTypes:=#[22,3]},none⟩,
 ⟨some 1,Op.assign (Operand.tmp 20),none⟩])
 (.seq
 (.seq
 (.region [] false ([]) [
 ⟨some 21,Op.move (Operand.tmp 1),none⟩,
 ⟨some 22,Op.binOp BinOp.lss 3 (Operand.tmp 21) (Operand.const (Value.int IntKind.i64 0)) 3,none⟩])
 (.cond (Operand.tmp 22)
 (.seq
 (.region [] false ([]) [
 ⟨some 4,Op.assign (Operand.const (Value.int IntKind.i64 (-1))),none⟩])
 .ret)
 .skip))
 (.seq
 (.region [26] false ([]) [
 ⟨some 23,Op.fieldAddr 61 (Operand.tmp 2) 3,none⟩,
 ⟨some 24,Op.load 22 (Operand.tmp 23),none⟩,
 ⟨some 25,Op.move (Operand.tmp 1),none⟩,
 ⟨some 26,Op.call {callee:=Callee.value (Operand.func 78),args:=#[Operand.tmp 24,Operand.tmp 25],argTypes:=#[22,3]},none⟩,
 ⟨some 1,Op.assign (Operand.tmp 26),none⟩])
 (.seq
 (.seq
 (.region [] false ([]) [
 ⟨some 27,Op.move (Operand.tmp 1),none⟩,
 ⟨some 28,Op.binOp BinOp.lss 3 (Operand.tmp 27) (Operand.const (Value.int IntKind.i64 0)) 3,none⟩])
 (.cond (Operand.tmp 28)
 (.seq
 (.region [] false ([]) [
 ⟨some 4,Op.assign (Operand.const (Value.int IntKind.i64 (-1))),none⟩])
 .ret)
 .skip))
 (.seq
 (.region [32] false ([]) [
 ⟨some 29,Op.fieldAddr 61 (Operand.tmp 2) 4,none⟩,
 ⟨some 30,Op.load 59 (Operand.tmp 29),none⟩,
 ⟨some 31,Op.move (Operand.tmp 1),none⟩,
 ⟨some 32,Op.call {callee:=Callee.value (Operand.func 158),args:=#[Operand.tmp 30,Operand.tmp 31],argTypes:=#[59,3]},none⟩,
 ⟨some 1,Op.assign (Operand.tmp 32),none⟩])
 (.seq
 (.seq
 (.region [] false ([]) [
 ⟨some 33,Op.move (Operand.tmp 1),none⟩,
 ⟨some 34,Op.binOp BinOp.lss 3 (Operand.tmp 33) (Operand.const (Value.int IntKind.i64 0)) 3,none⟩])
 (.cond (Operand.tmp 34)
 (.seq
 (.region [] false ([]) [
 ⟨some 4,Op.assign (Operand.const (Value.int IntKind.i64 (-1))),none⟩])
 .ret)
 .skip))
 (.seq
 (.region [] false ([]) [
 ⟨some 35,Op.move (Operand.tmp 1),none⟩,
 ⟨some 4,Op.assign (Operand.tmp 35),none⟩])
 .ret))))))))))))
theorem heldAuN (k : Int) (h0 : 0 ≤ k) : CallsF Try.prog 105 [.agg [.v (.slice none 0 0), .v (.slice none 0 0), .v (.slice none 0 0), .v (.slice none 0 0), .v (.slice none 0 0)], .val (.v (.int .i64 k))] (.t (.v (.int .i64 k))) [] := by
  refine callsF_of_wp2 (fn := Try.f105) (k := k105) (fun _ => []) mixed (by kernel_rfl) rfl (by kernel_rfl) (by kernel_rfl) (by kernel_rfl) rfl (by simp [Try.f105]) (by simp [Arg.like]) ?_
  generalize hst : St.enter [.agg [.v (.slice none 0 0), .v (.slice none 0 0), .v (.slice none 0 0), .v (.slice none 0 0), .v (.slice none 0 0)], .val (.v (.int .i64 k))] = st0
  have t0 : st0.tm 0 = .agg ([.v (.slice none 0 0), .v (.slice none 0 0), .v (.slice none 0 0), .v (.slice none 0 0), .v (.slice none 0 0)] |>.map .t) := by rw [← hst]; rfl
  have t1 : st0.tm 1 = .t (.v (.int .i64 k)) := by rw [← hst]; rfl
  clear hst
  unfold k105
  repeat' (first
   | refine wp2_seq fun K hK => ?_
   | refine M_cons fun K hK => ?_
   | (refine hK _ ?_; clear hK K)
   | (refine hX _ ?_; clear hX hY X Y)
   | (refine hY _ ?_; clear hX hY X Y)
   | refine wp2_region ?_
   | refine wp2_cond fun X Y hX hY => ?_
   | (refine condK_of (fun c => ?_) (fun c => ?_) <;> (try simp [-List.length_eq_zero_iff] at c))
   | (refine callT_fl (heldIsN _) (by simp [St.args, St.arg, t0, t1] <;> first | rfl | ((repeat' first | rfl | apply And.intro); first | done | fail)) ?_)
   | (refine callT_fl (heldBsN _) (by simp [St.args, St.arg, t0, t1] <;> first | rfl | ((repeat' first | rfl | apply And.intro); first | done | fail)) ?_)
   | simp (maxSteps := 4000000) (disch := omega) [t0, t1])
  all_goals try (simp [t0, t1, Back]; done)
  all_goals first | omega | skip
/-- The code of laws.heldBuilt. -/
def k37 : Code1 :=
 (.seq
 (.region [2] false ([]) [
 ⟨some 2,Op.box 63 (Operand.tmp 0),none⟩,
 ⟨some 4,Op.assign (Operand.const (Value.int IntKind.i64 0)),none⟩])
 (.seq
 (.region [8] false ([]) [
 ⟨some 5,Op.fieldAddr 63 (Operand.tmp 2) 1,none⟩,
 ⟨some 6,Op.load 61 (Operand.tmp 5),none⟩,
 ⟨some 7,Op.move (Operand.tmp 1),none⟩,
 ⟨some 8,Op.call {callee:=Callee.value (Operand.func 105),args:=#[Operand.tmp 6,Operand.tmp 7],argTypes:=#[61,3]},none⟩,
 ⟨some 1,Op.assign (Operand.tmp 8),none⟩])
 (.seq
 (.seq
 (.region [] false ([]) [
 ⟨some 9,Op.move (Operand.tmp 1),none⟩,
 ⟨some 10,Op.binOp BinOp.lss 3 (Operand.tmp 9) (Operand.const (Value.int IntKind.i64 0)) 3,none⟩])
 (.cond (Operand.tmp 10)
 (.seq
 (.region [] false ([]) [
 ⟨some 4,Op.assign (Operand.const (Value.int IntKind.i64 (-1))),none⟩])
 .ret)
 .skip))
 (.seq
 (.region [] false ([]) [
 ⟨some 11,Op.move (Operand.tmp 1),none⟩,
 ⟨some 4,Op.assign (Operand.tmp 11),none⟩])
 .ret))))
theorem heldBoN (c k : Int) (h0 : 0 ≤ k) : CallsF Try.prog 37 [.agg (boN c), .val (.v (.int .i64 k))] (.t (.v (.int .i64 k))) [] := by
  refine callsF_of_wp2 (fn := Try.f37) (k := k37) (fun _ => []) mixed (by kernel_rfl) rfl (by kernel_rfl) (by kernel_rfl) (by kernel_rfl) rfl (by simp [Try.f37]) (by simp [Arg.like]) ?_
  generalize hst : St.enter [.agg (boN c), .val (.v (.int .i64 k))] = st0
  have t0 : st0.tm 0 = .agg ((boN c) |>.map .t) := by rw [← hst]; rfl
  have t1 : st0.tm 1 = .t (.v (.int .i64 k)) := by rw [← hst]; rfl
  clear hst
  unfold k37
  simp [boN] at t0
  repeat' (first
   | refine wp2_seq fun K hK => ?_
   | refine M_cons fun K hK => ?_
   | (refine hK _ ?_; clear hK K)
   | (refine hX _ ?_; clear hX hY X Y)
   | (refine hY _ ?_; clear hX hY X Y)
   | refine wp2_region ?_
   | refine wp2_cond fun X Y hX hY => ?_
   | (refine condK_of (fun c => ?_) (fun c => ?_) <;> (try simp [-List.length_eq_zero_iff] at c))
   | (refine callT_fl (heldAuN _ h0) (by simp [St.args, St.arg, t0, t1] <;> first | rfl | ((repeat' first | rfl | apply And.intro); first | done | fail)) ?_)
   | simp (maxSteps := 4000000) (disch := omega) [t0, t1])
  all_goals try (simp [t0, t1, Back]; done)
  all_goals first | omega | skip
set_option maxHeartbeats 0 in
theorem heldAu (na nb nd ne nf : Nat) (la : na ≤ 2000) (lb : nb ≤ 2000) (ld : nd ≤ 2000) (le : ne ≤ 2000) (lf : nf ≤ 2000) (k : Int) (h0 : 0 ≤ k) (h1 : k ≤ 100000000) :
    CallsF Try.prog 105 [.agg [ints (marked k na), ints (marked (k + na) nb), ints (marked (k + na + nb) nd), ints (marked (k + na + nb + nd) ne), bools (markedB (k + na + nb + nd + ne) nf)], .val (.v (.int .i64 k))] (.t (.v (.int .i64 (k + na + nb + nd + ne + nf)))) [] := by
  refine callsF_of_wp2 (fn := Try.f105) (k := k105) (fun _ => []) mixed (by kernel_rfl) rfl (by kernel_rfl) (by kernel_rfl) (by kernel_rfl) rfl (by simp [Try.f105]) (by simp [Arg.like]) ?_
  generalize hst : St.enter [.agg [ints (marked k na), ints (marked (k + na) nb), ints (marked (k + na + nb) nd), ints (marked (k + na + nb + nd) ne), bools (markedB (k + na + nb + nd + ne) nf)], .val (.v (.int .i64 k))] = st0
  have t0 : st0.tm 0 = .agg ([ints (marked k na), ints (marked (k + na) nb), ints (marked (k + na + nb) nd), ints (marked (k + na + nb + nd) ne), bools (markedB (k + na + nb + nd + ne) nf)] |>.map .t) := by rw [← hst]; rfl
  have t1 : st0.tm 1 = .t (.v (.int .i64 k)) := by rw [← hst]; rfl
  clear hst
  unfold k105
  repeat' (first
   | refine wp2_seq fun K hK => ?_
   | refine M_cons fun K hK => ?_
   | (refine hK _ ?_; clear hK K)
   | (refine hX _ ?_; clear hX hY X Y)
   | (refine hY _ ?_; clear hX hY X Y)
   | refine wp2_region ?_
   | refine wp2_cond fun X Y hX hY => ?_
   | (refine condK_of (fun c => ?_) (fun c => ?_) <;> (try simp [-List.length_eq_zero_iff] at c))
   | (refine callT_fl (heldI _ _ ?_ ?_ ?_) (by simp [St.args, St.arg, t0, t1] <;> first | rfl | ((repeat' first | rfl | apply And.intro); first | done | fail)) ?_; omega; omega; omega)
   | (refine callT_fl (heldBs _ _ ?_ ?_ ?_) (by simp [St.args, St.arg, t0, t1] <;> first | rfl | ((repeat' first | rfl | apply And.intro); first | done | fail)) ?_; omega; omega; omega)
   | simp (maxSteps := 4000000) (disch := omega) [t0, t1])
  all_goals try (simp [t0, t1, Back]; done)
  all_goals first | omega | skip
theorem heldBo (c : Int) (na nb nd ne nf : Nat) (la : na ≤ 2000) (lb : nb ≤ 2000) (ld : nd ≤ 2000) (le : ne ≤ 2000) (lf : nf ≤ 2000) (k : Int) (h0 : 0 ≤ k) (h1 : k ≤ 100000000) :
    CallsF Try.prog 37 [.agg [.v (.int .i64 c), ints (marked k na), ints (marked (k + na) nb), ints (marked (k + na + nb) nd), ints (marked (k + na + nb + nd) ne), bools (markedB (k + na + nb + nd + ne) nf)], .val (.v (.int .i64 k))] (.t (.v (.int .i64 (k + na + nb + nd + ne + nf)))) [] := by
  refine callsF_of_wp2 (fn := Try.f37) (k := k37) (fun _ => []) mixed (by kernel_rfl) rfl (by kernel_rfl) (by kernel_rfl) (by kernel_rfl) rfl (by simp [Try.f37]) (by simp [Arg.like]) ?_
  generalize hst : St.enter [.agg [.v (.int .i64 c), ints (marked k na), ints (marked (k + na) nb), ints (marked (k + na + nb) nd), ints (marked (k + na + nb + nd) ne), bools (markedB (k + na + nb + nd + ne) nf)], .val (.v (.int .i64 k))] = st0
  have t0 : st0.tm 0 = .agg ([.v (.int .i64 c), ints (marked k na), ints (marked (k + na) nb), ints (marked (k + na + nb) nd), ints (marked (k + na + nb + nd) ne), bools (markedB (k + na + nb + nd + ne) nf)] |>.map .t) := by rw [← hst]; rfl
  have t1 : st0.tm 1 = .t (.v (.int .i64 k)) := by rw [← hst]; rfl
  clear hst
  unfold k37
  have g := heldAu na nb nd ne nf la lb ld le lf k h0 h1
  repeat' (first
   | refine wp2_seq fun K hK => ?_
   | refine M_cons fun K hK => ?_
   | (refine hK _ ?_; clear hK K)
   | (refine hX _ ?_; clear hX hY X Y)
   | (refine hY _ ?_; clear hX hY X Y)
   | refine wp2_region ?_
   | refine wp2_cond fun X Y hX hY => ?_
   | (refine condK_of (fun c => ?_) (fun c => ?_) <;> (try simp [-List.length_eq_zero_iff] at c))
   | (refine callT_fl (g) (by simp [St.args, St.arg, t0, t1] <;> first | rfl | ((repeat' first | rfl | apply And.intro); first | done | fail)) ?_)
   | simp (maxSteps := 4000000) (disch := omega) [t0, t1])
  all_goals try (simp [t0, t1, Back]; done)
  all_goals first | omega | skip
end Cal

/- Rules in the law: copied and marked in line. -/
set_option linter.unusedSimpArgs false
set_option linter.unusedVariables false
namespace Cal
open Go Go.Proofs
set_option maxRecDepth 100000
abbrev U2 := Int × Bool
def ucell (i : Nat) (a : U2) (n : Nat) : List AV := [.t (.v (.int .i64 a.1)), .t (.v (.bool a.2)), .row (70003, i) 1 0 n]
def ucells (f : Nat → U2) (ns : Nat → Nat) (len : Nat) : List (List AV) := (List.range len).map fun i => ucell i (f i) (ns i)
@[simp] theorem ucells_length (f : Nat → U2) (ns : Nat → Nat) (len : Nat) : (ucells f ns len).length = len := by simp [ucells]
@[simp] theorem ucells_get {f : Nat → U2} {ns : Nat → Nat} {len i : Nat} (h : i < len) : (ucells f ns len)[i]? = some (ucell i (f i) (ns i)) := by simp [ucells, h]
@[simp] theorem ucell_length (i : Nat) (a : U2) (n : Nat) : (ucell i a n).length = 3 := rfl
section
variable (i : Nat) (a : U2) (n : Nat) (x : Int) (b : Bool)
@[simp] theorem over_u0 : over (ucell i a n) 0 [.t (.v (.int .i64 x))] = ucell i (x, a.2) n := rfl
@[simp] theorem over_u1 : over (ucell i a n) 1 [.t (.v (.bool b))] = ucell i (a.1, b) n := rfl
@[simp] theorem over_u0' : AV.t (.v (.int .i64 x)) :: (ucell i a n).tail = ucell i (x, a.2) n := rfl
@[simp] theorem over_u1' : List.take 1 (ucell i a n) ++ AV.t (.v (.bool b)) :: List.drop 2 (ucell i a n) = ucell i (a.1, b) n := rfl
@[simp] theorem take_u2 : List.take 1 (List.drop 2 (ucell i a n)) = [.row (70003, i) 1 0 n] := rfl
end
@[simp] theorem ucells_set (f : Nat → U2) (ns : Nat → Nat) (len i : Nat) (a : U2) : (ucells f ns len).set i (ucell i a (ns i)) = ucells (fun j => if j = i then a else f j) ns len := by
  apply List.ext_getElem?
  intro j
  rw [List.getElem?_set]
  by_cases hj : i = j
  · subst hj
    by_cases hl : i < len
    · simp [ucells, hl]
    · simp [ucells, hl]
  · have : ¬ j = i := fun e => hj e.symm
    by_cases hl : j < len
    · simp [ucells, hj, hl, this]
    · simp [ucells, hj, hl]
@[simp] theorem ucell_kills (i : Nat) (a : U2) (n : Nat) (ds : List Nat) : AV.kills ds (ucell i a n) = if ds.contains 70003 = true then [.t (.v (.int .i64 a.1)), .t (.v (.bool a.2)), (AV.row (70003, i) 1 0 n).kill ds] else ucell i a n := by
  by_cases h1 : 70003 ∈ ds <;> simp [ucell, h1]
@[simp] theorem ucells_kills (f : Nat → U2) (ns : Nat → Nat) (len : Nat) (ds : List Nat) : (ucells f ns len).map (AV.kills ds) = if ds.contains 70003 = true then (ucells f ns len).map (fun e => AV.kills ds e) else ucells f ns len := by
  split
  · rfl
  · rename_i h
    simp only [ucells, List.map_map]
    apply List.map_congr_left
    intro i _
    simp only [Function.comp_apply, ucell_kills]
    rw [if_neg h]
def accU (g : Nat → Nat) : Nat → Nat
  | 0 => 0
  | n + 1 => accU g n + g n
theorem accU_mono (g : Nat → Nat) {i j : Nat} (h : i ≤ j) : accU g i ≤ accU g j := by
  induction j with
  | zero => obtain rfl : i = 0 := by omega
            exact Nat.le_refl _
  | succ j ih =>
    rcases Nat.lt_or_ge i (j + 1) with h1 | h1
    · have := ih (by omega)
      show accU g i ≤ accU g j + g j
      omega
    · obtain rfl : i = j + 1 := by omega
      exact Nat.le_refl _
/-- The code of laws.markRuleS. -/
def k35 : Code1 :=
 (.seq
 (.region [] false ([]) [
 ⟨some 4,Op.assign (Operand.const (Value.int IntKind.i64 0)),none⟩])
 (.seq
 (.seq
 (.region [] false ([]) [
 ⟨some 5,Op.assign (Operand.const (Value.int IntKind.i64 0)),none⟩])
 (.block 0
 (.loop
 (.seq
 (.seq
 (.region [] false ([]) [
 ⟨some 6,Op.move (Operand.tmp 5),none⟩,
 ⟨some 7,Op.move (Operand.tmp 0),none⟩,
 ⟨some 8,Op.call {callee:=Callee.builtin Builtin.len,args:=#[Operand.tmp 7],argTypes:=#[65]},none⟩,
 ⟨some 9,Op.binOp BinOp.lss 3 (Operand.tmp 6) (Operand.tmp 8) 3,none⟩])
 (.cond (Operand.tmp 9)
 .skip
 (.exit 0)))
 (.seq
 (.block 1
 (.seq
 (.region [] false ([]) [
 ⟨some 12,Op.move (Operand.tmp 0),none⟩,
 ⟨some 13,Op.move (Operand.tmp 5),none⟩,
 ⟨some 14,Op.move (Operand.tmp 1),none⟩,
 ⟨some 15,Op.indexAddr 65 (Operand.tmp 12) (Operand.tmp 13),none⟩,
 ⟨some 16,Op.fieldAddr 98 (Operand.tmp 15) 0,none⟩,
 ⟨none,Op.store 2 (Operand.tmp 16) (Operand.tmp 14),none⟩])
 (.seq
 (.region [] false ([]) [
 ⟨some 17,Op.move (Operand.tmp 1),none⟩,
 ⟨some 18,Op.binOp BinOp.add 3 (Operand.tmp 17) (Operand.const (Value.int IntKind.i64 1)) 3,none⟩,
 ⟨some 1,Op.assign (Operand.tmp 18),none⟩])
 (.seq
 (.region [] false ([]) [
 ⟨some 19,Op.move (Operand.tmp 0),none⟩,
 ⟨some 20,Op.move (Operand.tmp 5),none⟩,
 ⟨some 21,Op.move (Operand.tmp 1),none⟩,
 ⟨some 22,Op.binOp BinOp.rem 3 (Operand.tmp 21) (Operand.const (Value.int IntKind.i64 3)) 3,none⟩,
 ⟨some 23,Op.binOp BinOp.eql 3 (Operand.tmp 22) (Operand.const (Value.int IntKind.i64 0)) 3,none⟩,
 ⟨some 24,Op.indexAddr 65 (Operand.tmp 19) (Operand.tmp 20),none⟩,
 ⟨some 25,Op.fieldAddr 98 (Operand.tmp 24) 1,none⟩,
 ⟨none,Op.store 4 (Operand.tmp 25) (Operand.tmp 23),none⟩])
 (.seq
 (.region [] false ([]) [
 ⟨some 26,Op.move (Operand.tmp 1),none⟩,
 ⟨some 27,Op.binOp BinOp.add 3 (Operand.tmp 26) (Operand.const (Value.int IntKind.i64 1)) 3,none⟩,
 ⟨some 1,Op.assign (Operand.tmp 27),none⟩])
 (.region [34] false ([]) [
 ⟨some 28,Op.move (Operand.tmp 0),none⟩,
 ⟨some 29,Op.move (Operand.tmp 5),none⟩,
 ⟨some 30,Op.indexAddr 65 (Operand.tmp 28) (Operand.tmp 29),none⟩,
 ⟨some 31,Op.fieldAddr 98 (Operand.tmp 30) 2,none⟩,
 ⟨some 32,Op.load 22 (Operand.tmp 31),none⟩,
 ⟨some 33,Op.move (Operand.tmp 1),none⟩,
 ⟨some 34,Op.call {callee:=Callee.value (Operand.func 73),args:=#[Operand.tmp 32,Operand.tmp 33],argTypes:=#[22,3]},none⟩,
 ⟨some 1,Op.assign (Operand.tmp 34),none⟩]))))))
 (.region [] false ([]) [
 ⟨some 10,Op.move (Operand.tmp 5),none⟩,
 ⟨some 11,Op.binOp BinOp.add 3 (Operand.tmp 10) (Operand.const (Value.int IntKind.i64 1)) 3,none⟩,
 ⟨some 5,Op.assign (Operand.tmp 11),none⟩]))))))
 (.seq
 (.region [] false ([]) [
 ⟨some 35,Op.move (Operand.tmp 1),none⟩,
 ⟨some 4,Op.assign (Operand.tmp 35),none⟩])
 .ret)))
set_option maxHeartbeats 0 in
theorem markUs_inl (s : St) (hc : s.Calm [] [70003, 70005]) {R : AV → St → Prop} (f : Nat → U2) (ns : Nat → Nat) (len : Nat) (k : Int) (h0 : 0 ≤ k) (hk : k + accU (fun i => 2 + ns i) len ≤ 900000000) (hl : len ≤ 1048576) (hs1 : ∀ i, i < len → ns i ≤ 1048576)
    (ho : s.ob (70005, 0) = some (.big 3 (ucells f ns len))) (hn : ∀ i, i < len → ∃ l, l.length = ns i ∧ s.ob (70003, i) = some (.row 1 (intRow l)))
    (hR : ∀ s', Keep [70003, 70005] s s' → R (.t (.v (.int .i64 (k + accU (fun i => 2 + ns i) len)))) s') :
    Inl Try.prog 35 [.row (70005, 0) 3 0 len, .t (.v (.int .i64 k))] s R := by
  refine inl_of_wp2 (fn := Try.f35) (k := k35) (fun _ => []) mixed (by kernel_rfl) rfl (by kernel_rfl) (by kernel_rfl) rfl (by simp [Try.f35]) ?_
  generalize hst : s.body [.row (70005, 0) 3 0 len, .t (.v (.int .i64 k))] = st0
  have q0 : ∀ F, Keep F s st0 := fun F => by rw [← hst]; exact (Keep.refl F s).body _
  have hob : st0.ob = s.ob := by rw [← hst]; rfl
  have t0 : st0.tm 0 = .row (70005, 0) 3 0 len := by rw [← hst]; rfl
  have t1 : st0.tm 1 = .t (.v (.int .i64 k)) := by rw [← hst]; rfl
  clear hst
  unfold k35
  have o0 : st0.ob (70005, 0) = some (.big 3 (ucells f ns len)) := by rw [hob]; exact ho
  repeat' (first
   | refine wp2_seq fun K hK => ?_
   | refine M_cons fun K hK => ?_
   | (refine hK _ ?_; clear hK K)
   | refine wp2_block ?_
   | refine wp2_region ?_
   | simp (maxSteps := 4000000) (disch := omega) [t0, t1, o0])
  have hJ : ∀ s1, Keep [70003, 70005] s s1 → s1.tm 1 = .t (.v (.int .i64 (k + accU (fun i => 2 + ns i) len))) → K s1 := by
    intro s1 q1 s11
    repeat' (first
     | refine wp2_seq fun K hK => ?_
     | refine M_cons fun K hK => ?_
     | (refine hK _ ?_; clear hK K)
     | refine wp2_region ?_
     | simp (maxSteps := 4000000) (disch := omega) [s11])
    refine ⟨_, by simp [resultA, resA, s11], hR _ ?_⟩
    refine Keep.bare ?_
    (repeat' first | exact q1 | exact q1 _ | refine Keep.put ?_ _ _ | refine Keep.setOb ?_ (by first | rfl | simp) _ | refine Keep.kill hc ?_ (by first | rfl | simp) | refine Keep.ren hc ?_ (by first | rfl | simp) | refine Keep.ren1 hc ?_ (by first | rfl | simp) | refine Keep.kill1 hc ?_ (by first | rfl | simp))
  clear hK
  refine wp2_loop (fun n s1 => ∃ (j : Nat) (g : Nat → U2), Keep [70003, 70005] s s1 ∧ s1.tm 0 = .row (70005, 0) 3 0 len ∧ s1.tm 1 = .t (.v (.int .i64 (k + accU (fun i => 2 + ns i) j))) ∧ s1.tm 5 = .t (.v (.int .i64 j)) ∧ s1.ob (70005, 0) = some (.big 3 (ucells g ns len)) ∧ (∀ i, i < len → ∃ l, l.length = ns i ∧ s1.ob (70003, i) = some (.row 1 (intRow l))) ∧ j ≤ len ∧ n = len - j) len ?_ ?_
  · refine ⟨0, f, ?_, ?_⟩
    · (repeat' first | exact q0 | exact q0 _ | refine Keep.put ?_ _ _ | refine Keep.setOb ?_ (by first | rfl | simp) _ | refine Keep.kill hc ?_ (by first | rfl | simp) | refine Keep.ren hc ?_ (by first | rfl | simp) | refine Keep.ren1 hc ?_ (by first | rfl | simp) | refine Keep.kill1 hc ?_ (by first | rfl | simp))
    · simp [t0, t1, hob, ho, accU]
      exact hn
  · rintro n s1 ⟨j, g, q1, s10, s11, s15, o1, n1, hj, rfl⟩ K' hN
    by_cases hlt : j < len
    · obtain ⟨l1, e1, p1⟩ := n1 j hlt
      have b1 := hs1 j hlt
      have am := accU_mono (fun i => 2 + ns i) (show j + 1 ≤ len by omega)
      have ae : accU (fun i => 2 + ns i) (j + 1) = accU (fun i => 2 + ns i) j + (2 + ns j) := rfl
      generalize hA : k + (accU (fun i => 2 + ns i) j : Int) = A at *
      repeat' (first
       | refine wp2_seq fun K hK => ?_
       | refine M_cons fun K hK => ?_
       | (refine hK _ ?_; clear hK K)
       | (refine hX _ ?_; clear hX hY X Y)
       | (refine hY _ ?_; clear hX hY X Y)
       | refine wp2_block ?_
       | refine wp2_region ?_
       | refine wp2_cond fun X Y hX hY => ?_
       | (refine condK_of (fun c => ?_) (fun c => ?_) <;> (try simp [-List.length_eq_zero_iff] at c))
       | (refine callT_mrow (markI _ _ ?_ ?_ ?_) (by simp [s10, s11, s15, o1, p1, e1]; rfl) (by first | (simp; done) | omega) rfl (by simp [RV.flat, T.flat]) (by (repeat' first | exact flat_intRow _ | exact flat_boolRow _ | exact flat_byteR _ | exact trivial | constructor | unfold Arg.flats | unfold Arg.flat); first | done | fail) ?_; omega; omega; omega)
       | simp (maxSteps := 4000000) (disch := omega) [s10, s11, s15, o1, p1, e1])
      all_goals first
        | omega
        | (refine hN (len - (j + 1)) _ (by omega) ⟨j + 1, (fun i => if i = j then (A, (A + 1).tmod 3 == 0) else g i), ?_, ?_⟩)
      · (repeat' first | exact q1 | exact q1 _ | refine Keep.put ?_ _ _ | refine Keep.setOb ?_ (by first | rfl | simp) _ | refine Keep.kill hc ?_ (by first | rfl | simp) | refine Keep.ren hc ?_ (by first | rfl | simp) | refine Keep.ren1 hc ?_ (by first | rfl | simp) | refine Keep.kill1 hc ?_ (by first | rfl | simp))
      · refine ⟨by simp [s10], by simp [ae]; omega, by simp, by (simp [o1]; refine congrArg (fun h => ucells h ns len) ?_; funext i; by_cases e : i = j <;> simp [e]), fun i hi => ?_, by omega, by omega⟩
        by_cases e : i = j
        · subst e
          exact ⟨marked _ (ns i), by simp, by simp; rfl⟩
        · obtain ⟨l, h1, h2⟩ := n1 i hi
          exact ⟨l, h1, by simp [e, h2]⟩
    · have hjl : j = len := by omega
      subst hjl
      repeat' (first
       | refine wp2_seq fun K hK => ?_
       | refine M_cons fun K hK => ?_
       | (refine hK _ ?_; clear hK K)
       | (refine hY _ ?_; clear hX hY X Y)
       | refine wp2_region ?_
       | refine wp2_cond fun X Y hX hY => ?_
       | (refine condK_of (fun c => ?_) (fun c => ?_) <;> (try simp [-List.length_eq_zero_iff] at c))
       | simp (maxSteps := 4000000) (disch := omega) [s10, s11, s15, o1])
      all_goals first
        | omega
        | (refine hJ _ ?_ (by simp [s11]); done)
        | skip
      refine hJ _ ?_ (by simp [s11])
      (repeat' first | exact q1 | exact q1 _ | refine Keep.put ?_ _ _ | refine Keep.setOb ?_ (by first | rfl | simp) _ | refine Keep.kill hc ?_ (by first | rfl | simp) | refine Keep.ren hc ?_ (by first | rfl | simp) | refine Keep.ren1 hc ?_ (by first | rfl | simp) | refine Keep.kill1 hc ?_ (by first | rfl | simp))
end Cal

/- Rules in the law: copied in line. -/
set_option linter.unusedSimpArgs false
set_option linter.unusedVariables false
namespace Cal
open Go Go.Proofs
set_option maxRecDepth 100000
theorem ren1_outU {p q id : Id} (h : ¬ id = p) : ren1 p q id = id := by unfold ren1; rw [if_neg h]
def zUA : List AV := [.t (.v (.int .i64 0)), .t (.v (.bool false)), .t (.v (.slice none 0 0))]
def ucl (l : List Ru) (i : Nat) : List AV := ucell i ((nth l (i : Int)).rel, (nth l (i : Int)).only) (nth l (i : Int)).seq.length
/-- The rows of relations, so many of them made. -/
def uU (l : List Ru) (k : Nat) : List (List AV) := (List.range l.length).map fun i => if i < k then ucl l i else zUA
@[simp] theorem uU_length (l : List Ru) (k : Nat) : (uU l k).length = l.length := by simp [uU]
@[simp] theorem uU_get (l : List Ru) (k : Nat) (h : k < l.length) : (uU l k)[k]? = some zUA := by simp [uU, h]
theorem uU_set (l : List Ru) (k : Nat) : (uU l k).set k (ucl l k) = uU l (k + 1) := by
  apply List.ext_getElem?
  intro j
  rw [List.getElem?_set]
  by_cases hj : k = j
  · subst hj
    by_cases hl : k < l.length
    · simp [uU, hl]
    · simp [uU, hl]
  · by_cases hl : j < l.length
    · have : (j < k + 1) = (j < k) := by apply propext; omega
      simp [uU, hj, hl, this]
    · simp [uU, hj, hl]
theorem uU_all (l : List Ru) : uU l l.length = ucells (fun i => ((nth l (i : Int)).rel, (nth l (i : Int)).only)) (fun i => (nth l (i : Int)).seq.length) l.length := by
  unfold uU ucells
  exact List.map_congr_left fun i hi => by rw [if_pos (List.mem_range.1 hi)]; rfl
theorem uU_0 (l : List Ru) : (filled (recRow encRu l) 0 zU).map (fun e => e.map AV.t) = uU l 0 := by
  rw [filled_0, recRow_length, List.map_replicate]
  apply List.ext_getElem?
  intro j
  by_cases h : j < l.length
  · simp [uU, h, zU, zUA]
  · simp [uU, h]
theorem uU_free {p : Id → Prop} {l : List Ru} {k : Nat} (h1 : ∀ i < k, ¬ p (70003, i)) : AV.frees p (uU l k).flatten := by
  refine frees_mem fun x hx => ?_
  obtain ⟨e, he, hx⟩ := List.mem_flatten.1 hx
  obtain ⟨i, _, rfl⟩ := List.mem_map.1 he
  split at hx
  · rename_i hi
    simp only [ucl, ucell, List.mem_cons, List.mem_nil_iff, or_false] at hx
    rcases hx with rfl | rfl | rfl <;> unfold AV.free <;> first | trivial | exact h1 i hi
  · simp only [zUA, List.mem_cons, List.mem_nil_iff, or_false] at hx
    rcases hx with rfl | rfl | rfl <;> unfold AV.free <;> trivial
@[simp] theorem zUA_kills (ds : List Nat) : AV.kills ds zUA = zUA := by simp [zUA]
@[simp] theorem zUA_length : zUA.length = 3 := rfl
@[simp] theorem zUA_over (a b c : AV) : over zUA 0 [a, b, c] = [a, b, c] := rfl
@[simp] theorem zUA_over' (a b c : AV) : a :: b :: c :: List.drop 3 zUA = [a, b, c] := rfl
@[simp] theorem uU_kills (l : List Ru) (k : Nat) (ds : List Nat) : (uU l k).map (AV.kills ds) = if (ds.contains 70003) = true then (uU l k).map (fun e => AV.kills ds e) else uU l k := by
  split
  · rfl
  · rename_i h
    have h' : 70003 ∉ ds := by simpa using h
    exact flatten_map_frees (p := fun id => id.1 ∈ ds) (fun _ he => AV.kills_same he) (uU_free (fun i _ => h'))
@[simp] theorem uU_kills1a (l : List Ru) (k : Nat) : (uU l k).map (AV.kills1 (70003, k)) = uU l k :=
  flatten_map_frees (p := fun id => id = (70003, k)) (fun _ he => AV.kills1_same he) (uU_free (fun i hi e => by simp at e; omega))
@[simp] theorem uU_ren1a (l : List Ru) (k b : Nat) (q : Id) : (uU l k).map (AV.rensG (ren1 (20, b) q)) = uU l k :=
  flatten_map_frees (p := fun id => ren1 (20, b) q id ≠ id) (fun _ he => AV.rensG_same he) (uU_free (fun i _ e => e (ren1_outU (by simp))))
@[simp] theorem uU_ren (l : List Ru) (k e : Nat) : (uU l k).map (AV.rensG (renI 7 e)) = uU l k :=
  flatten_map_frees (p := fun id => renI 7 e id ≠ id) (fun _ he => AV.rensG_same he) (uU_free (fun i _ e => e (by simp)))
set_option maxHeartbeats 0 in
theorem toUs_inl (s : St) (hc : s.Calm [70003, 70005] [70003, 70005]) {R : AV → St → Prop} (l : List Ru) (hl : l.length ≤ 1048576) (h1 : ∀ i : Nat, i < l.length → (nth l i).seq.length ≤ 1048576)
    (hR : ∀ s', Keep [70003, 70005] s s' → s'.ob (70005, 0) = some (.big 3 (uU l l.length)) → (∀ i : Nat, i < l.length → s'.ob (70003, i) = some (.row 1 (intRow (nth l (i : Int)).seq))) → R (.row (70005, 0) 3 0 l.length) s') :
    Inl Try.prog 31 [.t (recs encRu l)] s R := by
  refine inl_of_wp2 (fn := Try.f31) (k := k31) (fun _ => []) mixed (by kernel_rfl) rfl (by kernel_rfl) (by kernel_rfl) rfl (by simp [Try.f31]) ?_
  generalize hst : s.body [.t (recs encRu l)] = st0
  have q0 : ∀ F, Keep F s st0 := fun F => by rw [← hst]; exact (Keep.refl F s).body _
  have hob : st0.ob = s.ob := by rw [← hst]; rfl
  have t0 : st0.tm 0 = .t (recs encRu l) := by rw [← hst]; rfl
  clear hst
  unfold k31
  repeat' (first
   | refine wp2_seq fun K hK => ?_
   | refine M_cons fun K hK => ?_
   | (refine hK _ ?_; clear hK K)
   | refine wp2_block ?_
   | (refine wp2_big (ops := ⟨some 4, _, _⟩ :: _) (7, 0) (by simp [t0, uU_0] <;> first | rfl | exact ⟨rfl, rfl⟩) ?_)
   | refine wp2_canon (ops := ⟨some 4, _, _⟩ :: _) [(3, 70005)] ?_
   | refine wp2_region ?_
   | simp (maxSteps := 4000000) (disch := omega) [t0, uU_0])
  have hJ : ∀ s1, Keep [70003, 70005] s s1 → s1.tm 3 = .row (70005, 0) 3 0 l.length → s1.ob (70005, 0) = some (.big 3 (uU l l.length)) → (∀ i : Nat, i < l.length → s1.ob (70003, i) = some (.row 1 (intRow (nth l (i : Int)).seq))) → K s1 := by
    intro s1 q1 s13 o1 n1
    repeat' (first
     | refine wp2_seq fun K hK => ?_
     | refine M_cons fun K hK => ?_
     | (refine hK _ ?_; clear hK K)
     | refine wp2_region ?_
     | simp (maxSteps := 4000000) (disch := omega) [s13])
    refine ⟨_, by simp [resultA, resA, s13], hR _ ?_ ?_ ?_⟩
    · refine Keep.bare ?_
      (repeat' first | exact q1 | exact q1 _ | refine Keep.put ?_ _ _ | refine Keep.setOb ?_ (by first | rfl | simp) _ | refine Keep.kill hc ?_ (by first | rfl | simp) | refine Keep.ren hc ?_ (by first | rfl | simp) | refine Keep.ren1 hc ?_ (by first | rfl | simp) | refine Keep.kill1 hc ?_ (by first | rfl | simp))
    · simp [o1]
    · intro i hi
      simp [n1 i hi]
  clear hK
  refine wp2_loop (fun n s1 => ∃ k : Nat, Keep [70003, 70005] s s1 ∧ s1.tm 0 = .t (recs encRu l) ∧ s1.tm 3 = .row (70005, 0) 3 0 l.length ∧ s1.tm 4 = .t (.v (.int .i64 k)) ∧ s1.ob (70005, 0) = some (.big 3 (uU l k)) ∧ (∀ i : Nat, i < k → s1.ob (70003, i) = some (.row 1 (intRow (nth l (i : Int)).seq))) ∧ k ≤ l.length ∧ n = l.length - k) l.length ?_ ?_
  · refine ⟨0, ?_, ?_⟩
    · (repeat' first | exact q0 | exact q0 _ | refine Keep.put ?_ _ _ | refine Keep.setOb ?_ (by first | rfl | simp) _ | refine Keep.kill hc ?_ (by first | rfl | simp) | refine Keep.ren hc ?_ (by first | rfl | simp) | refine Keep.ren1 hc ?_ (by first | rfl | simp) | refine Keep.kill1 hc ?_ (by first | rfl | simp))
    · simp [t0, uU_0]
  · rintro n s1 ⟨k, q1, s10, s13, s14, o1, n1, hk, rfl⟩ K' hN
    have g1 := h1 k
    by_cases hlt : k < l.length
    · repeat' (first
     | refine wp2_seq fun K hK => ?_
     | refine M_cons fun K hK => ?_
     | (refine hK _ ?_; clear hK K)
     | (refine hX _ ?_; clear hX hY X Y)
     | (refine hY _ ?_; clear hX hY X Y)
     | refine wp2_block ?_
     | (refine wp2_ren1' (ops := ⟨some 12, _, _⟩ :: _) (20, 0) (70003, k) (by rfl) (by simp [s10, s13, s14, o1, encRu, rvU] <;> first | rfl | exact ⟨rfl, rfl⟩) ?_)
     | refine wp2_region ?_
     | refine wp2_cond fun X Y hX hY => ?_
     | (refine condK_of (fun c => ?_) (fun c => ?_) <;> (try simp [-List.length_eq_zero_iff] at c))
     | (refine callT_fl (toU _ ?_) (by simp [St.args, St.arg, s10, s13, s14, o1, encRu, rvU] <;> first | rfl | ((repeat' first | rfl | apply And.intro); first | done | fail)) ?_; omega)
     | simp (maxSteps := 4000000) (disch := omega) [s10, s13, s14, o1, encRu, rvU])
      all_goals first
        | omega
        | (refine hN (l.length - (k + 1)) _ (by omega) ⟨k + 1, ?_, ?_⟩)
      · (repeat' first | exact q1 | exact q1 _ | refine Keep.put ?_ _ _ | refine Keep.setOb ?_ (by first | rfl | simp) _ | refine Keep.kill hc ?_ (by first | rfl | simp) | refine Keep.ren hc ?_ (by first | rfl | simp) | refine Keep.ren1 hc ?_ (by first | rfl | simp) | refine Keep.kill1 hc ?_ (by first | rfl | simp))
      · have hset := uU_set l k
        simp only [ucl, ucell] at hset
        refine ⟨by simp [s10], by simp [s13], by simp, by simp [o1, hset], fun i hi => ?_, by omega, by omega⟩
        by_cases e : i = k
        · subst e
          simp
        · simp [e, n1 i (by omega)]
    · have hkl : k = l.length := by omega
      subst hkl
      repeat' (first
       | refine wp2_seq fun K hK => ?_
       | refine M_cons fun K hK => ?_
       | (refine hK _ ?_; clear hK K)
       | (refine hY _ ?_; clear hX hY X Y)
       | refine wp2_region ?_
       | refine wp2_cond fun X Y hX hY => ?_
       | (refine condK_of (fun c => ?_) (fun c => ?_) <;> (try simp [-List.length_eq_zero_iff] at c))
       | simp (maxSteps := 4000000) (disch := omega) [s10, s13, s14, o1])
      all_goals first | omega | skip
      refine hJ _ ?_ (by simp [s13]) (by simp [o1]) (fun i hi => by simp [n1 i hi])
      (repeat' first | exact q1 | exact q1 _ | refine Keep.put ?_ _ _ | refine Keep.setOb ?_ (by first | rfl | simp) _ | refine Keep.kill hc ?_ (by first | rfl | simp) | refine Keep.ren hc ?_ (by first | rfl | simp) | refine Keep.ren1 hc ?_ (by first | rfl | simp) | refine Keep.kill1 hc ?_ (by first | rfl | simp))
end Cal
