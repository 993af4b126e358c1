/- A part of the proof: a calculus of our own over the model's code, and contracts of the program's functions. -/
import Derived.Test.YthiflnpbamlinaaG1
import Derived.Test.YthiflnpbamlinaaG10
import Derived.Test.YthiflnpbamlinaaG11
import Derived.Test.YthiflnpbamlinaaG12
/- A calculus of our own: more rules for reckoning: maps. -/
set_option linter.unusedSimpArgs false
set_option linter.unusedVariables false
namespace Cal
open Go Go.Proofs
/-- Fields put into a struct, their values given. -/
def fillV (P : Program) (t : TypeId) (zero : List AV) : List (Nat × AV) → Option (List AV)
  | [] => some zero
  | (i, x) :: l => match foff P t i with
    | some (off, size, _) => if x.cells.length = size ∧ off + size ≤ zero.length ∧ x.cells.all AV.one then fillV P t (over zero off x.cells) l else none
    | none => none
@[simp] theorem fillA_eq (P : Program) (t : TypeId) (st : St) : ∀ (parts : List (Nat × Operand)) (zero : List AV), fillA P t st zero parts = fillV P t zero (parts.map fun p => (p.1, st.ev p.2))
  | [], zero => rfl
  | (i, x) :: l, zero => by
    unfold fillA
    rw [List.map_cons]
    unfold fillV
    cases foff P t i with
    | none => rfl
    | some r =>
      obtain ⟨off, size, ag⟩ := r
      dsimp only
      split
      · exact fillA_eq P t st l _
      · rfl
attribute [simp] fillV
/-- Entries of a map, as abstract values and as values. -/
def vmap {α : Type} (f : α → Value) (kvs : List (MK × α)) : List (MK × AV) := kvs.map fun p => (p.1, .t (.v (f p.2)))
def vmapT {α : Type} (f : α → Value) (kvs : List (MK × α)) : List (MK × Value) := kvs.map fun p => (p.1, f p.2)
@[simp] theorem vmap_nil {α : Type} (f : α → Value) : vmap f [] = [] := rfl
theorem mset_vmap {α : Type} (f : α → Value) (k : MK) (x : α) : ∀ kvs : List (MK × α), mset (vmap f kvs) k (.t (.v (f x))) = vmap f (mset kvs k x)
  | [] => rfl
  | p :: l => by
    have ih := mset_vmap f k x l
    simp only [vmap, List.map_cons, mset] at *
    split
    · rfl
    · rw [ih]; rfl
theorem mget_vmap {α : Type} (f : α → Value) (k : MK) : ∀ kvs : List (MK × α), mget (vmap f kvs) k = (mget kvs k).map fun x => .t (.v (f x))
  | [] => rfl
  | p :: l => by
    have ih := mget_vmap f k l
    simp only [vmap, List.map_cons, mget] at *
    split
    · rfl
    · exact ih
theorem mget_vmapT {α : Type} (f : α → Value) (k : MK) : ∀ kvs : List (MK × α), mget (vmapT f kvs) k = (mget kvs k).map f
  | [] => rfl
  | p :: l => by
    have ih := mget_vmapT f k l
    simp only [vmapT, List.map_cons, mget] at *
    split
    · rfl
    · exact ih
@[simp] theorem flat_vmap {α : Type} (f : α → Value) : ∀ kvs : List (MK × α), flatVals (vmap f kvs) = some (vmapT f kvs)
  | [] => rfl
  | p :: l => by
    have ih := flat_vmap f l
    simp only [vmap, vmapT, List.map_cons, flatVals] at *
    rw [ih]
    rfl
@[simp] theorem vmap_T {α : Type} (f : α → Value) (kvs : List (MK × α)) : ((vmapT f kvs).map fun p => (p.1, AV.t (.v p.2))) = vmap f kvs := by
  simp [vmap, vmapT]
@[simp] theorem kill_vmap {α : Type} (ds : List Nat) (f : α → Value) (kvs : List (MK × α)) : ((vmap f kvs).map fun p => (p.1, p.2.kill ds)) = vmap f kvs := by
  simp [vmap]
@[simp] theorem kill1_vmap {α : Type} (q : Id) (f : α → Value) (kvs : List (MK × α)) : ((vmap f kvs).map fun p => (p.1, p.2.kill1 q)) = vmap f kvs := by
  simp [vmap]
@[simp] theorem ren_vmap {α : Type} (r : Id → Id) (f : α → Value) (kvs : List (MK × α)) : ((vmap f kvs).map fun p => (p.1, p.2.renG r)) = vmap f kvs := by
  simp [vmap]
theorem in64_of {n : Int} (h0 : -9223372036854775808 ≤ n) (h1 : n < 9223372036854775808) : in64 n = true := by simp [in64, h0, h1]
@[simp] theorem keyA_i (n : Int) (h0 : -9223372036854775808 ≤ n) (h1 : n < 9223372036854775808) : keyA 0 (.t (.v (.int .i64 n))) = some (.i n) := by simp [keyA, in64_of h0 h1]
@[simp] theorem keyA_p (a b : Int) (h0 : -9223372036854775808 ≤ a) (h1 : a < 9223372036854775808) (h2 : -9223372036854775808 ≤ b) (h3 : b < 9223372036854775808) : keyA 1 (.agg [.t (.v (.int .i64 a)), .t (.v (.int .i64 b))]) = some (.p a b) := by simp [keyA, in64_of h0 h1, in64_of h2 h3]
/-- A lookup, its key and its map known. -/
def lookB (z : Value) (ok : Bool) (kd : Nat) (k : MK) (o : Option Ob) : Option (AV × Eff) :=
  match o with
  | some (.map kd' kvs) => if kd' = kd then some (lookR ok z (mget kvs k), []) else none
  | some (.fmap kd' kvs) => if kd' = kd then some (lookR ok z ((mget kvs k).map fun x => .t (.v x)), []) else none
  | _ => none
def lookK (z : Value) (ok : Bool) (st : St) (kd : Nat) (x : AV) : Option MK → Option (AV × Eff)
  | none => none
  | some k => match x with
    | .t (.v (.map none)) => some (lookR ok z none, [])
    | .t (.mp kd' kvs) => if kd' = kd then some (lookR ok z ((mget kvs k).map fun x => .t (.v x)), []) else none
    | .mp id => lookB z ok kd k (st.ob id)
    | _ => none
@[simp] theorem lookA_def (st : St) (kt kd : Nat) (z : Value) (ok : Bool) (x k : AV) : lookA st (some ⟨kt, kd, z⟩) ok x k = lookK z ok st kd x (keyA kd k) := by
  unfold lookA lookK
  dsimp only
  cases keyA kd k with
  | none => rfl
  | some key => dsimp only; split <;> first | rfl | (split <;> first | rfl | (simp_all; done))
@[simp] theorem lookK_T {α : Type} (z : Value) (st : St) (kd : Nat) (f : α → Value) (kvs : List (MK × α)) (k : MK) (ok : Bool) : lookK z ok st kd (.t (.mp kd (vmapT f kvs))) (some k) = some (lookR ok z ((mget kvs k).map fun x => .t (.v (f x))), []) := by
  simp [lookK, mget_vmapT]
  rfl
@[simp] theorem lookK_mp (z : Value) (st : St) (kd : Nat) (id : Id) (k : MK) (ok : Bool) : lookK z ok st kd (.mp id) (some k) = lookB z ok kd k (st.ob id) := rfl
@[simp] theorem lookB_v {α : Type} (z : Value) (kd : Nat) (f : α → Value) (kvs : List (MK × α)) (k : MK) (ok : Bool) : lookB z ok kd k (some (.map kd (vmap f kvs))) = some (lookR ok z ((mget kvs k).map fun x => .t (.v (f x))), []) := by
  simp [lookB, mget_vmap]
@[simp] theorem lookR_ti (z : Int) (o : Option Int) : lookR true (.int .i64 z) (o.map fun x => .t (.v (.int .i64 x))) = .tup [.t (.v (.int .i64 (o.getD z))), .t (.v (.bool o.isSome))] := by cases o <;> rfl
@[simp] theorem lookR_fi (z : Int) (o : Option Int) : lookR false (.int .i64 z) (o.map fun x => .t (.v (.int .i64 x))) = .t (.v (.int .i64 (o.getD z))) := by cases o <;> rfl
@[simp] theorem lookR_fb (z : Bool) (o : Option Bool) : lookR false (.bool z) (o.map fun x => .t (.v (.bool x))) = .t (.v (.bool (o.getD z))) := by cases o <;> rfl
@[simp] theorem lookR_tn (z : Value) : lookR true z none = .tup [.t (.v z), .t (.v (.bool false))] := rfl
@[simp] theorem lookR_ts (z : Value) (v : AV) : lookR true z (some v) = .tup [v, .t (.v (.bool true))] := rfl
@[simp] theorem lookR_fn (z : Value) : lookR false z none = .t (.v z) := rfl
@[simp] theorem lookR_fs (z : Value) (v : AV) : lookR false z (some v) = v := rfl
def mupB (id : Id) (kd : Nat) (v : AV) (k : MK) : Option Ob → Option Eff
  | some (.map kd' kvs) => if kd' = kd ∧ v.one = true then some [(id, some (.map kd' (mset kvs k v)))] else none
  | _ => none
def mupK (st : St) (kd : Nat) (x v : AV) : Option MK → Option Eff
  | none => none
  | some k => match x with
    | .mp id => mupB id kd v k (st.ob id)
    | _ => none
@[simp] theorem mupA_def (st : St) (kt kd : Nat) (z : Value) (x k v : AV) : mupA st (some ⟨kt, kd, z⟩) x k v = mupK st kd x v (keyA kd k) := by
  unfold mupA mupK
  dsimp only
  cases keyA kd k with
  | none => rfl
  | some key => dsimp only; split <;> first | rfl | (split <;> first | rfl | (simp_all; done))
@[simp] theorem mupK_mp (st : St) (kd : Nat) (id : Id) (v : AV) (k : MK) : mupK st kd (.mp id) v (some k) = mupB id kd v k (st.ob id) := rfl
@[simp] theorem mupB_i (id : Id) (kd : Nat) (x : Int) (k : MK) (kvs : List (MK × Int)) : mupB id kd (.t (.v (.int .i64 x))) k (some (.map kd (vmap (Value.int .i64) kvs))) = some [(id, some (.map kd (vmap (Value.int .i64) (mset kvs k x))))] := by
  simp [mupB, mset_vmap, AV.one]
@[simp] theorem mupB_b (id : Id) (kd : Nat) (x : Bool) (k : MK) (kvs : List (MK × Bool)) : mupB id kd (.t (.v (.bool x))) k (some (.map kd (vmap Value.bool kvs))) = some [(id, some (.map kd (vmap Value.bool (mset kvs k x))))] := by
  simp [mupB, mset_vmap, AV.one]
@[simp] theorem mupB_i0 (id : Id) (kd : Nat) (x : Int) (k : MK) : mupB id kd (.t (.v (.int .i64 x))) k (some (.map kd [])) = some [(id, some (.map kd (vmap (Value.int .i64) [(k, x)])))] := mupB_i id kd x k []
@[simp] theorem mupB_b0 (id : Id) (kd : Nat) (x : Bool) (k : MK) : mupB id kd (.t (.v (.bool x))) k (some (.map kd [])) = some [(id, some (.map kd (vmap Value.bool [(k, x)])))] := mupB_b id kd x k []
end Cal

/- A calculus of our own: more rules for reckoning: rows of bools, rows of words, parts of rows. -/
set_option linter.unusedSimpArgs false
set_option linter.unusedVariables false
namespace Cal
open Go Go.Proofs
def boolRow (l : List Bool) : List (List T) := l.map fun x => [.v (.bool x)]
def bools (l : List Bool) : T := .sl (boolRow l)
def rdb (l : List Bool) (i : Int) : Bool := l.getD i.toNat false
@[simp] theorem boolRow_length (l : List Bool) : (boolRow l).length = l.length := by simp [boolRow]
@[simp] theorem lenA_bools (k : Nat) (l : List Bool) : lenA (.sl k) (.t (bools l)) = some l.length := by simp [lenA, bools]
theorem boolRow_get {l : List Bool} {i : Nat} (h : i < l.length) : (boolRow l)[i]? = some [.v (.bool (l.getD i false))] := by
  simp [boolRow, h]
@[simp] theorem index_bools (e : Nat) (ag : Bool) (b : Nat) (z : List Value) (l : List Bool) (i : Int) (h0 : 0 ≤ i) (h1 : i < l.length) :
    indexAddrA (some (e, ⟨ag, 1, b, z⟩)) (.t (bools l)) i = some (.roptr [.v (.bool (rdb l i))]) := by
  simp only [indexAddrA, bools, h0, if_true, boolRow_get (l := l) (i := i.toNat) (by omega)]
  rfl
theorem boolRow_set (l : List Bool) (i : Nat) (x : Bool) : (boolRow l).set i [.v (.bool x)] = boolRow (l.set i x) := by
  simp [boolRow, List.map_set]
theorem boolRow_append (l l' : List Bool) : boolRow l ++ boolRow l' = boolRow (l ++ l') := by simp [boolRow]
theorem boolRow_rep (n : Nat) (x : Bool) : List.replicate n [T.v (.bool x)] = boolRow (List.replicate n x) := by simp [boolRow]
@[simp] theorem boolRow_getN (l : List Bool) (i : Nat) (h : i < l.length) : (boolRow l)[i]? = some [.v (.bool (rdb l i))] := by
  rw [boolRow_get h]; simp [rdb]
@[simp] theorem boolRow_getI (l : List Bool) (i : Int) (h0 : 0 ≤ i) (h : i < l.length) : (boolRow l)[i.toNat]? = some [.v (.bool (rdb l i))] := by
  rw [boolRow_get (by omega)]
  rfl
attribute [simp] boolRow_set boolRow_append
theorem take_boolRow (l : List Bool) : (boolRow l).take l.length = boolRow l := by
  have := List.take_length (l := boolRow l)
  rwa [boolRow_length] at this
attribute [simp] take_boolRow
theorem make_bool (d : Nat) (e : Nat) (n : Int) (h0 : 0 ≤ n) (h1 : n ≤ 1099511627776) : makeA d (some (e, ⟨false, 1, 1, [.bool false]⟩)) (.t (.v (.int .i64 n))) (.t (.v (.int .i64 n))) = some (.row (d, 0) 1 0 n.toNat, [((d, 0), some (.row 1 (boolRow (List.replicate n.toNat false))))]) := by
  have h2 : n.toNat ≤ lim := by unfold lim; omega
  simp [makeA, TI.fine, plain, h0, h2, ← boolRow_rep]
attribute [simp] make_bool
theorem rdb_set_ne {l : List Bool} {i j : Nat} {x : Bool} (h : j ≠ i) : rdb (l.set i x) j = rdb l j := by
  unfold rdb
  simp only [Int.toNat_natCast, List.getD_eq_getElem?_getD]
  rw [List.getElem?_set_ne (fun e => h e.symm)]
theorem rdb_set_eq {l : List Bool} {i : Nat} {x : Bool} (h : i < l.length) : rdb (l.set i x) i = x := by
  unfold rdb
  simp only [Int.toNat_natCast, List.getD_eq_getElem?_getD]
  rw [List.getElem?_set_self h]
  rfl
/-! rows of words -/
def wordRow (ws : List (List Int)) : List (List T) := ws.map fun w => [ints w]
def words (ws : List (List Int)) : T := .sl (wordRow ws)
def wd (ws : List (List Int)) (i : Int) : List Int := ws.getD i.toNat []
@[simp] theorem wordRow_length (l : List (List Int)) : (wordRow l).length = l.length := by simp [wordRow]
@[simp] theorem lenA_words (k : Nat) (l : List (List Int)) : lenA (.sl k) (.t (words l)) = some l.length := by simp [lenA, words]
theorem wordRow_get {l : List (List Int)} {i : Nat} (h : i < l.length) : (wordRow l)[i]? = some [ints (l.getD i [])] := by
  simp [wordRow, h]
@[simp] theorem index_words (e : Nat) (ag : Bool) (b : Nat) (z : List Value) (l : List (List Int)) (i : Int) (h0 : 0 ≤ i) (h1 : i < l.length) :
    indexAddrA (some (e, ⟨ag, 1, b, z⟩)) (.t (words l)) i = some (.roptr [ints (wd l i)]) := by
  simp only [indexAddrA, words, h0, if_true, wordRow_get (l := l) (i := i.toNat) (by omega)]
  rfl
theorem wordRow_append (l l' : List (List Int)) : wordRow l ++ wordRow l' = wordRow (l ++ l') := by simp [wordRow]
@[simp] theorem wordRow_snoc (l : List (List Int)) (w : List Int) : wordRow l ++ [[ints w]] = wordRow (l ++ [w]) := wordRow_append l [w]
@[simp] theorem wordRow_getN (l : List (List Int)) (i : Nat) (h : i < l.length) : (wordRow l)[i]? = some [ints (wd l i)] := by
  rw [wordRow_get h]; simp [wd]
@[simp] theorem wordRow_getI (l : List (List Int)) (i : Int) (h0 : 0 ≤ i) (h : i < l.length) : (wordRow l)[i.toNat]? = some [ints (wd l i)] := by
  rw [wordRow_get (by omega)]
  rfl
/-! parts of rows -/
theorem szOK_ints (l : List Int) : szOK 1 (intRow l) = true := by simp [szOK, intRow]
@[simp] theorem slice_from (l : List Int) (i : Int) (h0 : 0 ≤ i) (h1 : i ≤ l.length) : sliceO (.sl 1) (.t (ints l)) (some (some i)) none = some (.t (ints (l.drop i.toNat)), []) := by
  have e : ints l = .sl (intRow l) := rfl
  unfold sliceO
  simp only [Option.bind_some, id, Option.bind_none]
  unfold sliceA
  rw [e]
  dsimp only
  rw [if_pos ⟨szOK_ints l, by simpa using h0, by simpa using h1, by simp⟩]
  simp only [Option.map_some, Option.getD_some, Option.getD_none, intRow_length, window]
  have e2 : (intRow l).drop i.toNat = intRow (l.drop i.toNat) := by simp [intRow, List.map_drop]
  rw [e2, List.take_of_length_le (by simp; omega)]
  rfl
@[simp] theorem slice_to (l : List Int) (i : Int) (h0 : 0 ≤ i) (h1 : i ≤ l.length) : sliceO (.sl 1) (.t (ints l)) none (some (some i)) = some (.t (ints (l.take i.toNat)), []) := by
  have e : ints l = .sl (intRow l) := rfl
  unfold sliceO
  simp only [Option.bind_some, id, Option.bind_none]
  unfold sliceA
  rw [e]
  dsimp only
  rw [if_pos ⟨szOK_ints l, by simp, by simpa using h0, by simpa using h1⟩]
  simp only [Option.map_some, Option.getD_some, Option.getD_none, intRow_length, window]
  simp [intRow, List.map_take, ints]
end Cal

/- A calculus of our own: more rules for reckoning: rows of records. -/
set_option linter.unusedSimpArgs false
set_option linter.unusedVariables false
namespace Cal
open Go Go.Proofs
def recRow {α : Type} (enc : α → List T) (l : List α) : List (List T) := l.map enc
def recs {α : Type} (enc : α → List T) (l : List α) : T := .sl (recRow enc l)
def nth {α : Type} [Inhabited α] (l : List α) (i : Int) : α := l.getD i.toNat default
variable {α : Type} [Inhabited α] (enc : α → List T)
@[simp] theorem recRow_length {α : Type} (enc : α → List T) (l : List α) : (recRow enc l).length = l.length := by simp [recRow]
@[simp] theorem lenA_recs {α : Type} (enc : α → List T) (k : Nat) (l : List α) : lenA (.sl k) (.t (recs enc l)) = some l.length := by simp [lenA, recs]
theorem recRow_get {l : List α} {i : Nat} (h : i < l.length) : (recRow enc l)[i]? = some (enc (nth l i)) := by
  simp [recRow, nth, h]
theorem index_recs (e : Nat) (ag : Bool) (n b : Nat) (z : List Value) (l : List α) (i : Int) (hn : ∀ x, n = (enc x).length) (h0 : 0 ≤ i) (h1 : i < l.length) :
    indexAddrA (some (e, ⟨ag, n, b, z⟩)) (.t (recs enc l)) i = some (.roptr (enc (nth l i))) := by
  have h2 : ((i.toNat : Nat) : Int) = i := by omega
  have h3 := recRow_get enc (l := l) (i := i.toNat) (by omega)
  rw [h2] at h3
  simp only [indexAddrA, recs, h0, if_true, h3]
  rw [if_pos (hn _)]
@[simp] theorem recs_sl {α : Type} (enc : α → List T) (l : List α) : T.sl (recRow enc l) = recs enc l := rfl
theorem recRow_getN (l : List α) (i : Nat) (h : i < l.length) : (recRow enc l)[i]? = some (enc (nth l i)) := recRow_get enc h
theorem recRow_getI (l : List α) (i : Int) (h0 : 0 ≤ i) (h : i < l.length) : (recRow enc l)[i.toNat]? = some (enc (nth l i)) := by
  have h2 : ((i.toNat : Nat) : Int) = i := by omega
  have := recRow_get enc (l := l) (i := i.toNat) (by omega)
  rwa [h2] at this
@[simp] theorem take_recRow {α : Type} (enc : α → List T) (l : List α) : (recRow enc l).take l.length = recRow enc l := by
  have := List.take_length (l := recRow enc l)
  rwa [recRow_length] at this
theorem nth_get {l : List α} {i : Nat} (h : i < l.length) : nth l i = l[i] := by
  unfold nth
  rw [Int.toNat_natCast, List.getD_eq_getElem?_getD, List.getElem?_eq_getElem h]
  rfl
theorem mem_nth {l : List α} {x : α} : x ∈ l ↔ ∃ i : Nat, i < l.length ∧ nth l i = x := by
  rw [List.mem_iff_getElem]
  constructor
  · rintro ⟨i, h, e⟩
    exact ⟨i, h, by rw [nth_get h]; exact e⟩
  · rintro ⟨i, h, e⟩
    exact ⟨i, h, by rw [← nth_get h]; exact e⟩
/-- A row that is being filled. -/
def filled (r : List (List T)) (k : Nat) (z : List T) : List (List T) := r.take k ++ List.replicate (r.length - k) z
@[simp] theorem filled_all (r : List (List T)) (z : List T) : filled r r.length z = r := by simp [filled]
@[simp] theorem filled_length (r : List (List T)) (k : Nat) (z : List T) (h : k ≤ r.length) : (filled r k z).length = r.length := by
  simp [filled]; omega
@[simp] theorem wrap_mul (a b : Int) (h0 : -9223372036854775808 ≤ a * b) (h1 : a * b < 9223372036854775808) : IntKind.i64.wrap (a * b) = a * b := wrap_in h0 h1
end Cal

/- Heaps of records, as lists. -/
set_option linter.unusedSimpArgs false
set_option linter.unusedVariables false
namespace Cal
open Go Go.Proofs
/-- A vertex that is reached: cost, number of edges, vertex. -/
structure Rc where
  a : Int
  b : Int
  v : Int
instance : Inhabited Rc := ⟨⟨0, 0, 0⟩⟩
def Lt (x y : Rc) : Prop := x.a < y.a ∨ x.a = y.a ∧ x.b < y.b
def Le (x y : Rc) : Prop := x.a < y.a ∨ x.a = y.a ∧ x.b ≤ y.b
instance (x y : Rc) : Decidable (Lt x y) := by unfold Lt; infer_instance
theorem Le.refl (x : Rc) : Le x x := .inr ⟨rfl, Int.le_refl _⟩
theorem Le.trans {x y z : Rc} (h1 : Le x y) (h2 : Le y z) : Le x z := by unfold Le at *; omega
theorem Le.lt {x y z : Rc} (h1 : Le x y) (h2 : Lt y z) : Lt x z := by unfold Le Lt at *; omega
theorem Lt.le {x y : Rc} (h1 : Lt x y) : Le x y := by unfold Le Lt at *; omega
theorem not_Lt {x y : Rc} : ¬ Lt x y ↔ Le y x := by unfold Le Lt; omega
theorem Le.not {x y : Rc} (h : Le x y) (h2 : Lt y x) : False := by unfold Le Lt at *; omega
def swapL (l : List Rc) (i j : Nat) : List Rc := (l.set i (nth l j)).set j (nth l i)
theorem swapL_len (l : List Rc) (i j : Nat) : (swapL l i j).length = l.length := by simp [swapL]
theorem nth_set {l : List Rc} {i : Nat} {x : Rc} {k : Nat} (hi : i < l.length) : nth (l.set i x) (k : Int) = if k = i then x else nth l k := by
  unfold nth
  simp only [Int.toNat_natCast, List.getD_eq_getElem?_getD, List.getElem?_set]
  by_cases h : i = k
  · subst h; simp [hi]
  · rw [if_neg h, if_neg (Ne.symm h)]
theorem swapL_at {l : List Rc} {i j k : Nat} (hi : i < l.length) (hj : j < l.length) : nth (swapL l i j) (k : Int) = if k = j then nth l i else if k = i then nth l j else nth l k := by
  unfold swapL
  rw [nth_set (by simpa using hj), nth_set hi]
theorem swapL_mem {l : List Rc} {i j : Nat} (hi : i < l.length) (hj : j < l.length) (x : Rc) : x ∈ swapL l i j ↔ x ∈ l := by
  have one : ∀ {l : List Rc} {i j : Nat}, i < l.length → j < l.length → ∀ {x : Rc}, x ∈ swapL l i j → x ∈ l := by
    intro l i j hi hj x hx
    obtain ⟨k, hk, rfl⟩ := mem_nth.1 hx
    rw [swapL_len] at hk
    rw [swapL_at hi hj]
    split
    · exact mem_nth.2 ⟨i, hi, rfl⟩
    · split
      · exact mem_nth.2 ⟨j, hj, rfl⟩
      · exact mem_nth.2 ⟨k, hk, rfl⟩
  refine ⟨one hi hj, fun hx => ?_⟩
  have h2 : swapL (swapL l i j) i j = l := by
    refine List.ext_getElem (by simp [swapL_len]) fun k h1 h2 => ?_
    rw [← nth_get h1, ← nth_get h2, swapL_at (by rw [swapL_len]; exact hi) (by rw [swapL_len]; exact hj), swapL_at hi hj, swapL_at hi hj, swapL_at hi hj]
    by_cases e1 : k = j
    · subst e1
      by_cases e2 : i = k
      · subst e2; simp
      · simp [e2]
    · by_cases e2 : k = i
      · subst e2; simp [e1]
      · simp [e1, e2]
  rw [← h2] at hx
  exact one (by rw [swapL_len]; exact hi) (by rw [swapL_len]; exact hj) hx
def Heap (l : List Rc) (n : Nat) : Prop := ∀ i : Nat, 0 < i → i < n → Le (nth l ((i - 1) / 2 : Nat)) (nth l i)
def HeapUp (l : List Rc) (j : Nat) : Prop := (∀ i : Nat, 0 < i → i < l.length → i ≠ j → Le (nth l ((i - 1) / 2 : Nat)) (nth l i)) ∧ (0 < j → ∀ i : Nat, 0 < i → i < l.length → (i - 1) / 2 = j → Le (nth l ((j - 1) / 2 : Nat)) (nth l i))
def HeapDn (l : List Rc) (n i : Nat) : Prop := (∀ k : Nat, 0 < k → k < n → (k - 1) / 2 ≠ i → Le (nth l ((k - 1) / 2 : Nat)) (nth l k)) ∧ (0 < i → ∀ k : Nat, 0 < k → k < n → (k - 1) / 2 = i → Le (nth l ((i - 1) / 2 : Nat)) (nth l k))
theorem Heap.least {l : List Rc} {n : Nat} (h : Heap l n) : ∀ i : Nat, i < n → Le (nth l (0 : Nat)) (nth l i) := by
  intro i
  induction i using Nat.strongRecOn with
  | _ i ih =>
    intro hi
    by_cases h0 : i = 0
    · subst h0; exact Le.refl _
    · exact (ih ((i - 1) / 2) (by omega) (by omega)).trans (h i (by omega) hi)
theorem Heap.snoc {l : List Rc} (h : Heap l l.length) (x : Rc) : HeapUp (l ++ [x]) l.length := by
  have e : ∀ k : Nat, k < l.length → nth (l ++ [x]) (k : Int) = nth l k := by
    intro k hk
    unfold nth
    simp only [Int.toNat_natCast, List.getD_eq_getElem?_getD]
    rw [List.getElem?_append_left hk]
  refine ⟨fun i h0 h1 h2 => ?_, fun h0 i h1 h2 h3 => ?_⟩
  · rw [List.length_append] at h1
    simp at h1
    rw [e i (by omega), e ((i - 1) / 2) (by omega)]
    exact h i h0 (by omega)
  · rw [List.length_append] at h2
    simp at h2
    omega
theorem HeapUp.stop {l : List Rc} {j : Nat} (h : HeapUp l j) (hj : j = 0 ∨ Le (nth l ((j - 1) / 2 : Nat)) (nth l j)) : Heap l l.length := by
  intro i h0 h1
  by_cases e : i = j
  · subst e
    rcases hj with rfl | hj
    · omega
    · exact hj
  · exact h.1 i h0 h1 e
theorem HeapUp.step {l : List Rc} {j : Nat} (h : HeapUp l j) (hj : 0 < j) (hl : j < l.length) (hlt : Lt (nth l j) (nth l ((j - 1) / 2 : Nat))) : HeapUp (swapL l ((j - 1) / 2) j) ((j - 1) / 2) := by
  have hp : (j - 1) / 2 < l.length := by omega
  have hpj : (j - 1) / 2 ≠ j := by omega
  refine ⟨fun i h0 h1 h2 => ?_, fun h0 i h1 h2 h3 => ?_⟩
  · rw [swapL_len] at h1
    rw [swapL_at hp hl, swapL_at hp hl]
    by_cases e : i = j
    · subst e
      rw [if_neg hpj, if_pos rfl, if_pos rfl]
      exact hlt.le
    · rw [if_neg e, if_neg h2]
      by_cases e2 : (i - 1) / 2 = j
      · rw [if_pos e2]
        exact h.2 hj i h0 h1 e2
      · rw [if_neg e2]
        by_cases e3 : (i - 1) / 2 = (j - 1) / 2
        · rw [if_pos e3]
          have := h.1 i h0 h1 e
          rw [e3] at this
          exact hlt.le.trans this
        · rw [if_neg e3]
          exact h.1 i h0 h1 e
  · rw [swapL_len] at h2
    rw [swapL_at hp hl, swapL_at hp hl]
    rw [if_neg (show ((j - 1) / 2 - 1) / 2 ≠ j by omega), if_neg (show ((j - 1) / 2 - 1) / 2 ≠ (j - 1) / 2 by omega)]
    have hq := h.1 ((j - 1) / 2) h0 hp hpj
    by_cases e : i = j
    · subst e
      rw [if_pos rfl]
      exact hq
    · rw [if_neg e, if_neg (by omega)]
      have := h.1 i h1 h2 e
      rw [h3] at this
      exact hq.trans this
theorem HeapDn.stop {l : List Rc} {n i : Nat} (h : HeapDn l n i) (hs : ∀ k : Nat, 0 < k → k < n → (k - 1) / 2 = i → Le (nth l i) (nth l k)) : Heap l n := by
  intro k h0 h1
  by_cases e : (k - 1) / 2 = i
  · rw [e]
    exact hs k h0 h1 e
  · exact h.1 k h0 h1 e
theorem HeapDn.step {l : List Rc} {n i j : Nat} (h : HeapDn l n i) (hn : n ≤ l.length) (h0 : 0 < j) (hj : j < n) (hp : (j - 1) / 2 = i) (hlt : Lt (nth l j) (nth l i)) (hs : ∀ k : Nat, 0 < k → k < n → (k - 1) / 2 = i → Le (nth l j) (nth l k)) : HeapDn (swapL l i j) n j := by
  have hi : i < l.length := by omega
  have hjl : j < l.length := by omega
  refine ⟨fun k k0 k1 k2 => ?_, fun _ k k0 k1 k2 => ?_⟩
  · rw [swapL_at hi hjl, swapL_at hi hjl, if_neg k2]
    by_cases e : (k - 1) / 2 = i
    · rw [if_pos e]
      by_cases e2 : k = j
      · rw [if_pos e2]
        exact hlt.le
      · rw [if_neg e2, if_neg (by omega)]
        exact hs k k0 k1 e
    · rw [if_neg e, if_neg (by intro e2; subst e2; omega)]
      by_cases e2 : k = i
      · subst e2
        rw [if_pos rfl]
        exact h.2 k0 j h0 hj hp
      · rw [if_neg e2]
        exact h.1 k k0 k1 e
  · rw [swapL_at hi hjl, swapL_at hi hjl, hp, if_neg (by omega), if_pos rfl, if_neg (by omega), if_neg (by omega)]
    have := h.1 k k0 k1 (by omega)
    rw [k2] at this
    exact this
theorem Heap.cut {l : List Rc} {n : Nat} (h : Heap l n) (hn : n ≤ l.length) : Heap (l.take n) (l.take n).length := by
  intro i h0 h1
  rw [List.length_take] at h1
  have e : ∀ k : Nat, k < n → nth (l.take n) (k : Int) = nth l k := by
    intro k hk
    unfold nth
    simp only [Int.toNat_natCast, List.getD_eq_getElem?_getD]
    rw [List.getElem?_take, if_pos hk]
  rw [e i (by omega), e ((i - 1) / 2) (by omega)]
  exact h i h0 (by omega)
end Cal

/- A pile in line: its methods. -/
set_option linter.unusedSimpArgs false
set_option linter.unusedVariables false
namespace Cal
open Go Go.Proofs
set_option maxRecDepth 100000
def cellR (r : Rc) : List AV := [.t (.v (.int .i64 r.a)), .t (.v (.int .i64 r.b)), .t (.v (.int .i64 r.v))]
def cellsR (l : List Rc) : List (List AV) := l.map cellR
def hE : List Nat := [79051]
def hF : List Nat := [79050, 79051]
def pIfc : AV := .ifc 204 (.ptr (79050, 0) 0 0)
/-- The pile: a variable with a slice of n records; its array begins with l. -/
structure PS (s : St) (l : List Rc) (n : Nat) : Prop where
  v : s.ob (79050, 0) = some (.var [.row (79051, 0) 3 0 n])
  r : s.ob (79051, 0) = some (.big 3 (cellsR l))
  le : n ≤ l.length
def InlP (f : FuncId) (vs : List AV) (l : List Rc) (n : Nat) (Post : AV → List Rc → Nat → Prop) : Prop :=
  ∀ s : St, s.Calm hE hF → PS s l n → ∀ R : AV → St → Prop, (∀ v s' l' n', Keep hF s s' → PS s' l' n' → Post v l' n' → R v s') → Inl Try.prog f vs s R
def ownP (id : Id) : Prop := id = (79050, 0) ∨ id = (79051, 0)
theorem push_frameP {s st : St} {ts : List Nat} (hc : s.Calm hE hF) (q : Keep hF s st) (h1 : ∀ t ∈ ts, (st.tm t).free fun id => ¬ calm hE id) : (st.only ts fun id => calm hF id ∨ ownP id).push.Calm hE hF := by
  refine ⟨fun t => ?_, fun id o hid ho => ?_⟩
  · simp only [St.push, St.only]
    split
    · split
      · exact h1 _ (by assumption)
      · unfold AV.free; trivial
    · rw [q.gh]
      exact hc.gh _
  · rw [push_ob, only_ob (.inl hid), q.ob id hid] at ho
    exact hc.ob id o hid ho
theorem callI_pile {d : Option Nat} {op : Op} {f : FuncId} {vs : List AV} {s st : St} {l : List Rc} {n : Nat} {Post : AV → List Rc → Nat → Prop} {K : St → Prop} {ts : List Nat} (hop : EntersAt Try.prog (st.only ts fun id => calm hF id ∨ ownP id) op f vs) (h : InlP f vs l n Post) (hc : s.Calm hE hF) (q : Keep hF s st) (ps : PS st l n)
    (h1 : ∀ t ∈ ts, (st.tm t).free fun id => ¬ calm hE id) (hK : ∀ s3 v l' n', Keep hF s s3 → PS s3 l' n' → (∀ t ∈ ts, s3.tm t = st.tm t) → Post v l' n' → K (s3.put d v)) : CallI Try.prog d op st K := by
  refine callI_intro (Weaker.only _ ts fun id => calm hF id ∨ ownP id) hop (h _ (push_frameP hc q h1) ⟨by rw [push_ob, only_ob (.inr (.inl rfl))]; exact ps.v, by rw [push_ob, only_ob (.inr (.inr rfl))]; exact ps.r, ps.le⟩ _ ?_)
  intro v s' l' n' k ps' hp
  obtain ⟨kp, ktm⟩ := k.pop
  refine hK s'.pop0 v l' n' (keep_back q kp rfl) ⟨ps'.v, ps'.r, ps'.le⟩ (fun t ht => ?_) hp
  rw [ktm]
  simp [St.only, ht]
theorem callP_ptr {d : Option Nat} {name : String} {r : Nat} {f : FuncId} {xs : Array Operand} {ts' : Array TypeId} {vs : List AV} {s st : St} {l : List Rc} {n : Nat} {Post : AV → List Rc → Nat → Prop} {K : St → Prop} (ts : List Nat) (hf : enters Try.prog f) (hm : methB Try.prog 204 name f true 207 = true) (hr : r ∈ ts) (ur : st.tm r = pIfc)
    (hvs : xs.toList.map (st.only ts fun id => calm hF id ∨ ownP id).ev = vs) (h : InlP f (.ptr (79050, 0) 0 0 :: vs) l n Post) (hc : s.Calm hE hF) (q : Keep hF s st) (ps : PS st l n)
    (h1 : ∀ t ∈ ts, (st.tm t).free fun id => ¬ calm hE id) (hK : ∀ s3 v l' n', Keep hF s s3 → PS s3 l' n' → (∀ t ∈ ts, s3.tm t = st.tm t) → Post v l' n' → K (s3.put d v)) : CallI Try.prog d (.call ⟨.invoke (.tmp r) name, xs, ts'⟩) st K := by
  subst hvs
  refine callI_pile (ts := ts) (entersAt_ivP hf hm (x := .ptr (79050, 0) 0 0) ?_) h hc q ps h1 hK
  show (if r ∈ ts then st.tm r else .bad) = _
  rw [if_pos hr, ur]
  rfl
theorem tinf_pile : tinf Try.prog 207 = some ⟨false, 1, 24, [.slice none 0 0]⟩ := by kernel_rfl
theorem callP_val {d : Option Nat} {name : String} {r : Nat} {f : FuncId} {xs : Array Operand} {ts' : Array TypeId} {vs : List AV} {s st : St} {l : List Rc} {n : Nat} {Post : AV → List Rc → Nat → Prop} {K : St → Prop} (ts : List Nat) (hf : enters Try.prog f) (hm : methB Try.prog 204 name f false 207 = true) (hr : r ∈ ts) (ur : st.tm r = pIfc)
    (hvs : xs.toList.map (st.only ts fun id => calm hF id ∨ ownP id).ev = vs) (h : InlP f (.row (79051, 0) 3 0 n :: vs) l n Post) (hc : s.Calm hE hF) (q : Keep hF s st) (ps : PS st l n)
    (h1 : ∀ t ∈ ts, (st.tm t).free fun id => ¬ calm hE id) (hK : ∀ s3 v l' n', Keep hF s s3 → PS s3 l' n' → (∀ t ∈ ts, s3.tm t = st.tm t) → Post v l' n' → K (s3.put d v)) : CallI Try.prog d (.call ⟨.invoke (.tmp r) name, xs, ts'⟩) st K := by
  subst hvs
  refine callI_pile (ts := ts) (entersAt_ivV hf hm (x := .ptr (79050, 0) 0 0) (y := .row (79051, 0) 3 0 n) ?_ tinf_pile ?_) h hc q ps h1 hK
  · show (if r ∈ ts then st.tm r else .bad) = _
    rw [if_pos hr, ur]
    rfl
  · simp [loadA, only_ob (s := st) (ts := ts) (p := fun id => calm hF id ∨ ownP id) (id := (79050, 0)) (.inr (.inl rfl)), ps.v, asOne]
theorem cellsR_get {l : List Rc} {i : Nat} (h : i < l.length) : (cellsR l)[i]? = some (cellR (nth l i)) := by
  unfold cellsR
  rw [List.getElem?_map, List.getElem?_eq_getElem h, nth_get h]
  rfl
theorem cellsR_set (l : List Rc) (i : Nat) (r : Rc) : (cellsR l).set i (cellR r) = cellsR (l.set i r) := by
  unfold cellsR
  rw [List.map_set]
@[simp] theorem cellsR_set3 (l : List Rc) (i : Nat) (a b v : Int) : (cellsR l).set i [.t (.v (.int .i64 a)), .t (.v (.int .i64 b)), .t (.v (.int .i64 v))] = cellsR (l.set i ⟨a, b, v⟩) := cellsR_set l i ⟨a, b, v⟩
theorem cellsR_take (l : List Rc) (n : Nat) : (cellsR l).take n = cellsR (l.take n) := by
  unfold cellsR
  rw [List.map_take]
@[simp] theorem cellsR_kills (l : List Rc) (ds : List Nat) : (cellsR l).map (AV.kills ds) = cellsR l := by
  unfold cellsR
  rw [List.map_map]
  apply List.map_congr_left
  intro r _
  simp [cellR]
@[simp] theorem cellsR_rens (l : List Rc) (r : Id → Id) : (cellsR l).map (AV.rensG r) = cellsR l := by
  unfold cellsR
  rw [List.map_map]
  apply List.map_congr_left
  intro r _
  simp [cellR]
@[simp] theorem assertA_true (u : Nat) (v : AV) : assertA true u (.ifc u v) = some v := by simp [assertA]
@[simp] theorem solid_struct (fs : Array Field) : solid (some (.struct fs)) = true := rfl
@[simp] theorem ev_nilIface (s : St) : s.ev (.const .nilIface) = .t (.v .nilIface) := rfl
@[simp] theorem sliceO_hi (sz : Nat) (id : Id) (m k : Nat) (h : k ≤ m) : sliceO (.sl sz) (.row id sz 0 m) none (some (some (k : Int))) = some (.row id sz 0 k, []) := by simp [sliceO, sliceA, h]
/-- What comes of a function without results may be taken for less. -/
theorem Inl.weak {P : Program} {f : FuncId} {vs : List AV} {s : St} {R : AV → St → Prop} (h : Inl P f vs s fun v s' => v = .tup [] ∧ ∃ s'', Weaker s' s'' ∧ R (.tup []) s'') : Inl P f vs s R := by
  intro w0 S0 own H X m cap S w us h1 h2 h3
  refine Calls.mono (h w0 S0 own H X m cap S w us h1 h2 h3) fun e w' he => ?_
  obtain ⟨u, v, s', m', cap', S', e1, e2, e3, e4, e5, s'', hw, hr⟩ := he
  subst e5
  obtain ⟨m2, cap2, S2, r1, r2⟩ := hw _ _ _ _ _ _ _ _ ⟨m', cap', S', e2, e3⟩
  unfold AVrep at e4
  obtain ⟨us', e4, e5⟩ := e4
  unfold AVreps at e5
  subst e5
  exact ⟨u, .tup [], s'', m2, cap2, S2, e1, r1, r2, by unfold AVrep; exact ⟨[], e4, by unfold AVreps; rfl⟩, hr⟩
/-- The code of (impl.pile).Len. -/
def k147 : Code1 :=
 (.seq
 (.region [] false ([]) [
 ⟨some 2,Op.assign (Operand.const (Value.int IntKind.i64 0)),none⟩])
 (.seq
 (.region [] false ([]) [
 ⟨some 3,Op.move (Operand.tmp 0),none⟩,
 ⟨some 4,Op.call {callee:=Callee.builtin Builtin.len,args:=#[Operand.tmp 3],argTypes:=#[207]},none⟩,
 ⟨some 2,Op.assign (Operand.tmp 4),none⟩])
 .ret))
set_option maxHeartbeats 0 in
theorem len_p (l : List Rc) (n : Nat) : InlP 147 [.row (79051, 0) 3 0 n] l n fun v l' n' => v = .t (.v (.int .i64 n)) ∧ l' = l ∧ n' = n := by
  intro s hc ps R hR
  refine inl_of_wp2 (fn := Try.f147) (k := k147) (fun _ => []) mixed (by kernel_rfl) rfl (by kernel_rfl) (by kernel_rfl) rfl (by simp [Try.f147]) ?_
  generalize hst : s.body [.row (79051, 0) 3 0 n] = st0
  have q0 : ∀ F, Keep F s st0 := fun F => by rw [← hst]; exact (Keep.refl F s).body _
  have hob : st0.ob = s.ob := by rw [← hst]; rfl
  have t0 : st0.tm 0 = .row (79051, 0) 3 0 n := by rw [← hst]; rfl
  clear hst
  unfold k147
  repeat' (first
   | refine wp2_seq fun K hK => ?_
   | refine M_cons fun K hK => ?_
   | (refine hK _ ?_; clear hK K)
   | refine wp2_region ?_
   | simp (maxSteps := 4000000) (disch := omega) [t0])
  refine ⟨_, by simp [resultA, resA], hR _ _ l n (Keep.bare ?_) ?_ ⟨rfl, rfl, rfl⟩⟩
  · (repeat' first | exact q0 | exact q0 _ | refine Keep.put ?_ _ _ | refine Keep.setOb ?_ (by first | rfl | simp) _ | refine Keep.kill hc ?_ (by first | rfl | simp) | refine Keep.ren hc ?_ (by first | rfl | simp) | refine Keep.ren1 hc ?_ (by first | rfl | simp) | refine Keep.kill1 hc ?_ (by first | rfl | simp))
  · exact ⟨by simp [hob, ps.v], by simp [hob, ps.r], ps.le⟩
/-- The code of (impl.pile).Less. -/
def k223 : Code1 :=
 (.seq
 (.region [] false ([]) [
 ⟨some 6,Op.assign (Operand.const (Value.bool false)),none⟩])
 (.seq
 (.region [] true ([]) [
 ⟨some 7,Op.move (Operand.tmp 0),none⟩,
 ⟨some 8,Op.move (Operand.tmp 1),none⟩,
 ⟨some 9,Op.indexAddr 207 (Operand.tmp 7) (Operand.tmp 8),none⟩,
 ⟨some 10,Op.fieldAddr 206 (Operand.tmp 9) 0,none⟩,
 ⟨some 11,Op.load 2 (Operand.tmp 10),none⟩,
 ⟨some 12,Op.move (Operand.tmp 0),none⟩,
 ⟨some 13,Op.move (Operand.tmp 2),none⟩,
 ⟨some 14,Op.indexAddr 207 (Operand.tmp 12) (Operand.tmp 13),none⟩,
 ⟨some 15,Op.fieldAddr 206 (Operand.tmp 14) 0,none⟩,
 ⟨some 16,Op.load 2 (Operand.tmp 15),none⟩,
 ⟨some 17,Op.binOp BinOp.lss 2 (Operand.tmp 11) (Operand.tmp 16) 2,none⟩,
 ⟨some 18,Op.move (Operand.tmp 17),none⟩,
 ⟨some 19,Op.move (Operand.tmp 0),some (18,false)⟩,
 ⟨some 20,Op.move (Operand.tmp 1),some (18,false)⟩,
 ⟨some 21,Op.indexAddr 207 (Operand.tmp 19) (Operand.tmp 20),some (18,false)⟩,
 ⟨some 22,Op.fieldAddr 206 (Operand.tmp 21) 0,some (18,false)⟩,
 ⟨some 23,Op.load 2 (Operand.tmp 22),some (18,false)⟩,
 ⟨some 24,Op.move (Operand.tmp 0),some (18,false)⟩,
 ⟨some 25,Op.move (Operand.tmp 2),some (18,false)⟩,
 ⟨some 26,Op.indexAddr 207 (Operand.tmp 24) (Operand.tmp 25),some (18,false)⟩,
 ⟨some 27,Op.fieldAddr 206 (Operand.tmp 26) 0,some (18,false)⟩,
 ⟨some 28,Op.load 2 (Operand.tmp 27),some (18,false)⟩,
 ⟨some 29,Op.binOp BinOp.eql 2 (Operand.tmp 23) (Operand.tmp 28) 2,some (18,false)⟩,
 ⟨some 30,Op.move (Operand.tmp 29),some (18,false)⟩,
 ⟨some 31,Op.move (Operand.tmp 0),some (30,true)⟩,
 ⟨some 32,Op.move (Operand.tmp 1),some (30,true)⟩,
 ⟨some 33,Op.indexAddr 207 (Operand.tmp 31) (Operand.tmp 32),some (30,true)⟩,
 ⟨some 34,Op.fieldAddr 206 (Operand.tmp 33) 1,some (30,true)⟩,
 ⟨some 35,Op.load 2 (Operand.tmp 34),some (30,true)⟩,
 ⟨some 36,Op.move (Operand.tmp 0),some (30,true)⟩,
 ⟨some 37,Op.move (Operand.tmp 2),some (30,true)⟩,
 ⟨some 38,Op.indexAddr 207 (Operand.tmp 36) (Operand.tmp 37),some (30,true)⟩,
 ⟨some 39,Op.fieldAddr 206 (Operand.tmp 38) 1,some (30,true)⟩,
 ⟨some 40,Op.load 2 (Operand.tmp 39),some (30,true)⟩,
 ⟨some 41,Op.binOp BinOp.lss 2 (Operand.tmp 35) (Operand.tmp 40) 2,some (30,true)⟩,
 ⟨some 42,Op.pick (Operand.tmp 30) (Operand.tmp 41) (Operand.const (Value.bool false)),some (18,false)⟩,
 ⟨some 43,Op.pick (Operand.tmp 18) (Operand.const (Value.bool true)) (Operand.tmp 42),none⟩,
 ⟨some 6,Op.assign (Operand.tmp 43),none⟩])
 .ret))
set_option maxHeartbeats 0 in
theorem less_p {l : List Rc} {n i j : Nat} (hn : n ≤ l.length) (hi : i < n) (hj : j < n) : InlP 223 [.row (79051, 0) 3 0 n, .t (.v (.int .i64 i)), .t (.v (.int .i64 j))] l n fun v l' n' => v = .t (.v (.bool (decide (Lt (nth l i) (nth l j))))) ∧ l' = l ∧ n' = n := by
  intro s hc ps R hR
  refine inl_of_wp2 (fn := Try.f223) (k := k223) (fun _ => []) mixed (by kernel_rfl) rfl (by kernel_rfl) (by kernel_rfl) rfl (by simp [Try.f223]) ?_
  generalize hst : s.body [.row (79051, 0) 3 0 n, .t (.v (.int .i64 i)), .t (.v (.int .i64 j))] = st0
  have q0 : ∀ F, Keep F s st0 := fun F => by rw [← hst]; exact (Keep.refl F s).body _
  have hob : st0.ob = s.ob := by rw [← hst]; rfl
  have t0 : st0.tm 0 = .row (79051, 0) 3 0 n := by rw [← hst]; rfl
  have t1 : st0.tm 1 = .t (.v (.int .i64 i)) := by rw [← hst]; rfl
  have t2 : st0.tm 2 = .t (.v (.int .i64 j)) := by rw [← hst]; rfl
  clear hst
  unfold k223
  have o1 := ps.r
  have gi := cellsR_get (l := l) (i := i) (by omega)
  have gj := cellsR_get (l := l) (i := j) (by omega)
  repeat' (first
   | refine wp2_seq fun K hK => ?_
   | refine M_cons fun K hK => ?_
   | (refine hK _ ?_; clear hK K)
   | refine wp2_region ?_
   | (refine guard1_or (fun c => ?_) (fun c => ?_) <;> (have cc := c) <;> (try simp [-List.length_eq_zero_iff] at cc) <;> (try simp (disch := omega) [t0, t1, t2, hob, o1, gi, gj, cellR, c]))
   | simp (maxSteps := 4000000) (disch := omega) [t0, t1, t2, hob, o1, gi, gj, cellR])
  all_goals refine ⟨_, by simp [resultA, resA]; rfl, hR _ _ l n (Keep.bare ?_) ⟨by simp [hob, ps.v], by simp [hob, ps.r], ps.le⟩ ⟨?_, rfl, rfl⟩⟩
  any_goals ((repeat' first | exact q0 | exact q0 _ | refine Keep.put ?_ _ _ | refine Keep.setOb ?_ (by first | rfl | simp) _ | refine Keep.kill hc ?_ (by first | rfl | simp) | refine Keep.ren hc ?_ (by first | rfl | simp) | refine Keep.ren1 hc ?_ (by first | rfl | simp) | refine Keep.kill1 hc ?_ (by first | rfl | simp)); done)
  all_goals (by_cases h1 : (nth l (i : Int)).a < (nth l (j : Int)).a <;> by_cases h2 : (nth l (i : Int)).a = (nth l (j : Int)).a <;> first | (exfalso; omega) | (simp [Lt, h1, h2]; done) | skip)
  all_goals trace_state
/-- The code of (impl.pile).Swap. -/
def k226 : Code1 :=
 (.region [] true ([]) [
 ⟨some 6,Op.move (Operand.tmp 0),none⟩,
 ⟨some 7,Op.move (Operand.tmp 1),none⟩,
 ⟨some 8,Op.move (Operand.tmp 0),none⟩,
 ⟨some 9,Op.move (Operand.tmp 2),none⟩,
 ⟨some 10,Op.move (Operand.tmp 0),none⟩,
 ⟨some 11,Op.move (Operand.tmp 2),none⟩,
 ⟨some 12,Op.indexAddr 207 (Operand.tmp 10) (Operand.tmp 11),none⟩,
 ⟨some 13,Op.load 206 (Operand.tmp 12),none⟩,
 ⟨some 14,Op.move (Operand.tmp 0),none⟩,
 ⟨some 15,Op.move (Operand.tmp 1),none⟩,
 ⟨some 16,Op.indexAddr 207 (Operand.tmp 14) (Operand.tmp 15),none⟩,
 ⟨some 17,Op.load 206 (Operand.tmp 16),none⟩,
 ⟨some 18,Op.indexAddr 207 (Operand.tmp 6) (Operand.tmp 7),none⟩,
 ⟨none,Op.store 206 (Operand.tmp 18) (Operand.tmp 13),none⟩,
 ⟨some 19,Op.indexAddr 207 (Operand.tmp 8) (Operand.tmp 9),none⟩,
 ⟨none,Op.store 206 (Operand.tmp 19) (Operand.tmp 17),none⟩])
set_option maxHeartbeats 0 in
theorem swap_p {l : List Rc} {n i j : Nat} (hn : n ≤ l.length) (hi : i < n) (hj : j < n) : InlP 226 [.row (79051, 0) 3 0 n, .t (.v (.int .i64 i)), .t (.v (.int .i64 j))] l n fun v l' n' => l' = swapL l i j ∧ n' = n := by
  intro s hc ps R hR
  refine inl_of_wp2 (fn := Try.f226) (k := k226) (fun _ => []) mixed (by kernel_rfl) rfl (by kernel_rfl) (by kernel_rfl) rfl (by simp [Try.f226]) ?_
  generalize hst : s.body [.row (79051, 0) 3 0 n, .t (.v (.int .i64 i)), .t (.v (.int .i64 j))] = st0
  have q0 : ∀ F, Keep F s st0 := fun F => by rw [← hst]; exact (Keep.refl F s).body _
  have hob : st0.ob = s.ob := by rw [← hst]; rfl
  have t0 : st0.tm 0 = .row (79051, 0) 3 0 n := by rw [← hst]; rfl
  have t1 : st0.tm 1 = .t (.v (.int .i64 i)) := by rw [← hst]; rfl
  have t2 : st0.tm 2 = .t (.v (.int .i64 j)) := by rw [← hst]; rfl
  clear hst
  unfold k226
  have o1 := ps.r
  have gi := cellsR_get (l := l) (i := i) (by omega)
  have gj := cellsR_get (l := l) (i := j) (by omega)
  have gk : (cellsR (l.set i ⟨(nth l j).a, (nth l j).b, (nth l j).v⟩))[j]? = some (cellR (nth (l.set i ⟨(nth l j).a, (nth l j).b, (nth l j).v⟩) j)) := cellsR_get (by rw [List.length_set]; omega)
  repeat' (first
   | refine M_cons fun K hK => ?_
   | (refine hK _ ?_; clear hK K)
   | refine wp2_region ?_
   | simp (maxSteps := 4000000) (disch := omega) [t0, t1, t2, hob, o1, gi, gj, gk, cellR])
  refine ⟨_, by simp [resultA]; rfl, hR _ _ (swapL l i j) n (Keep.bare ?_) ⟨by simp [hob, ps.v], by simp; rfl, by rw [swapL_len]; exact ps.le⟩ ⟨rfl, rfl⟩⟩
  (repeat' first | exact q0 | exact q0 _ | refine Keep.put ?_ _ _ | refine Keep.setOb ?_ (by first | rfl | simp) _ | refine Keep.kill hc ?_ (by first | rfl | simp) | refine Keep.ren hc ?_ (by first | rfl | simp) | refine Keep.ren1 hc ?_ (by first | rfl | simp) | refine Keep.kill1 hc ?_ (by first | rfl | simp))
/-- The code of (*impl.pile).Pop. -/
def k224 : Code1 :=
 (.seq
 (.region [] false ([]) [
 ⟨some 2,Op.assign (Operand.const Value.nilIface),none⟩])
 (.seq
 (.region [] false ([]) [
 ⟨some 5,Op.move (Operand.tmp 0),none⟩,
 ⟨some 6,Op.nilCheck (Operand.tmp 5),none⟩,
 ⟨some 7,Op.load 207 (Operand.tmp 6),none⟩,
 ⟨some 3,Op.assign (Operand.tmp 7),none⟩])
 (.seq
 (.region [4] false ([]) [
 ⟨some 8,Op.move (Operand.tmp 3),none⟩,
 ⟨some 9,Op.move (Operand.tmp 3),none⟩,
 ⟨some 10,Op.call {callee:=Callee.builtin Builtin.len,args:=#[Operand.tmp 9],argTypes:=#[207]},none⟩,
 ⟨some 11,Op.binOp BinOp.sub 3 (Operand.tmp 10) (Operand.const (Value.int IntKind.i64 1)) 3,none⟩,
 ⟨some 12,Op.indexAddr 207 (Operand.tmp 8) (Operand.tmp 11),none⟩,
 ⟨some 13,Op.load 206 (Operand.tmp 12),none⟩,
 ⟨some 4,Op.alloc 206,none⟩,
 ⟨none,Op.store 206 (Operand.tmp 4) (Operand.tmp 13),none⟩])
 (.seq
 (.region [] false ([]) [
 ⟨some 14,Op.move (Operand.tmp 0),none⟩,
 ⟨some 15,Op.move (Operand.tmp 3),none⟩,
 ⟨some 16,Op.move (Operand.tmp 3),none⟩,
 ⟨some 17,Op.call {callee:=Callee.builtin Builtin.len,args:=#[Operand.tmp 16],argTypes:=#[207]},none⟩,
 ⟨some 18,Op.binOp BinOp.sub 3 (Operand.tmp 17) (Operand.const (Value.int IntKind.i64 1)) 3,none⟩,
 ⟨some 19,Op.slice 207 (Operand.tmp 15) none (some (Operand.tmp 18)) none,none⟩,
 ⟨some 20,Op.nilCheck (Operand.tmp 14),none⟩,
 ⟨none,Op.store 207 (Operand.tmp 20) (Operand.tmp 19),none⟩])
 (.seq
 (.region [] false ([]) [
 ⟨some 21,Op.load 206 (Operand.tmp 4),none⟩,
 ⟨some 22,Op.makeInterface 206 (Operand.tmp 21),none⟩,
 ⟨some 2,Op.assign (Operand.tmp 22),none⟩])
 .ret)))))
set_option maxHeartbeats 0 in
theorem pop_p {l : List Rc} {n : Nat} (hn : n + 1 ≤ l.length) (hb : n ≤ 1000000) : InlP 224 [.ptr (79050, 0) 0 0] l (n + 1) fun v l' n' => v = .ifc 206 (.agg (cellR (nth l n))) ∧ l' = l ∧ n' = n := by
  intro s hc ps R hR
  refine inl_of_wp2 (fn := Try.f224) (k := k224) (fun _ => []) mixed (by kernel_rfl) rfl (by kernel_rfl) (by kernel_rfl) rfl (by simp [Try.f224]) ?_
  generalize hst : s.body [.ptr (79050, 0) 0 0] = st0
  have q0 : ∀ F, Keep F s st0 := fun F => by rw [← hst]; exact (Keep.refl F s).body _
  have hob : st0.ob = s.ob := by rw [← hst]; rfl
  have t0 : st0.tm 0 = .ptr (79050, 0) 0 0 := by rw [← hst]; rfl
  clear hst
  unfold k224
  have o1 := ps.r
  have o0 := ps.v
  have gi := cellsR_get (l := l) (i := n) (by omega)
  repeat' (first
   | refine wp2_seq fun K hK => ?_
   | refine M_cons fun K hK => ?_
   | (refine hK _ ?_; clear hK K)
   | refine wp2_region ?_
   | simp (maxSteps := 4000000) (disch := omega) [t0, hob, o0, o1, gi, cellR])
  refine ⟨_, by simp [resultA, resA]; rfl, hR _ _ l n (Keep.bare ?_) ⟨by simp, by simp [hob, ps.r], by omega⟩ ⟨rfl, rfl, rfl⟩⟩
  (repeat' first | exact q0 | exact q0 _ | refine Keep.put ?_ _ _ | refine Keep.setOb ?_ (by first | rfl | simp) _ | refine Keep.kill hc ?_ (by first | rfl | simp) | refine Keep.ren hc ?_ (by first | rfl | simp) | refine Keep.ren1 hc ?_ (by first | rfl | simp) | refine Keep.kill1 hc ?_ (by first | rfl | simp))
@[simp] theorem muteB_11 (t : Nat) : muteB true [11] (some t) = !(decide (t = 11)) := by simp [muteB]
/-- The code of (*impl.pile).Push. -/
def k225 : Code1 :=
 (.region [10,11] true ([11]) [
 ⟨some 4,Op.move (Operand.tmp 0),none⟩,
 ⟨some 5,Op.move (Operand.tmp 0),none⟩,
 ⟨some 6,Op.nilCheck (Operand.tmp 5),none⟩,
 ⟨some 7,Op.load 207 (Operand.tmp 6),none⟩,
 ⟨some 8,Op.move (Operand.tmp 1),none⟩,
 ⟨some 9,Op.typeAssert (Operand.tmp 8) 20 206 false,none⟩,
 ⟨some 10,Op.buildSlice 207 1 #[(0,Operand.tmp 9)],none⟩,
 ⟨some 11,Op.call {callee:=Callee.builtin Builtin.append,args:=#[Operand.tmp 7,Operand.tmp 10],argTypes:=#[207,207]},none⟩,
 ⟨some 12,Op.nilCheck (Operand.tmp 4),none⟩,
 ⟨none,Op.store 207 (Operand.tmp 12) (Operand.tmp 11),none⟩])
set_option maxHeartbeats 0 in
theorem push_p {l : List Rc} {n : Nat} (hn : n ≤ l.length) (hb : n ≤ 1000000) (x : Rc) : InlP 225 [.ptr (79050, 0) 0 0, .ifc 206 (.agg (cellR x))] l n fun v l' n' => l' = l.take n ++ [x] ∧ n' = n + 1 := by
  intro s hc ps R hR
  refine Inl.weak ?_
  refine inl_of_wp2 (fn := Try.f225) (k := k225) (fun | 0 => (11 :: .nil) | _ => .nil) mixed (by kernel_rfl) rfl (by kernel_rfl) (by kernel_rfl) rfl (by simp [Try.f225]) ?_
  generalize hst : s.body [.ptr (79050, 0) 0 0, .ifc 206 (.agg (cellR x))] = st0
  have q0 : ∀ F, Keep F s st0 := fun F => by rw [← hst]; exact (Keep.refl F s).body _
  have hob : st0.ob = s.ob := by rw [← hst]; rfl
  have t0 : st0.tm 0 = .ptr (79050, 0) 0 0 := by rw [← hst]; rfl
  have t1 : st0.tm 1 = .ifc 206 (.agg (cellR x)) := by rw [← hst]; rfl
  clear hst
  unfold k225
  have o1 := ps.r
  have o0 := ps.v
  have hc2 : n ≤ (cellsR l).length := by simp [cellsR]; omega
  have hc3 : (n + 1) * 24 ≤ 140737488355328 := by omega
  repeat' (first
   | refine M_cons fun K hK => ?_
   | (refine hK _ ?_; clear hK K)
   | refine wp2_region ?_
   | simp (maxSteps := 4000000) (disch := omega) [t0, t1, hob, o0, o1, cellR, elemsB, elemsA, appendB, window, TI.fine, lim, hc2, hc3])
  refine ⟨.tup [], by simp [resultA], rfl, _, Weaker.ren _ 11 79051 (by decide) (by unfold base; omega) (by unfold base; omega), hR _ _ (l.take n ++ [x]) (n + 1) ?_ ⟨?_, ?_, ?_⟩ ⟨rfl, rfl⟩⟩
  · refine Keep.ren hc (Keep.kill hc (Keep.bare ?_) (by rfl)) (by rfl)
    (repeat' first | exact q0 | exact q0 _ | refine Keep.put ?_ _ _ | refine Keep.setOb ?_ (by first | rfl | simp) _ | refine Keep.kill hc ?_ (by first | rfl | simp) | refine Keep.ren hc ?_ (by first | rfl | simp) | refine Keep.ren1 hc ?_ (by first | rfl | simp) | refine Keep.kill1 hc ?_ (by first | rfl | simp))
  · simp
  · simp
    rw [cellsR_take]
    simp [cellsR, cellR]
  · simp
    omega
end Cal

/- A heap in line: up. -/
set_option linter.unusedSimpArgs false
set_option linter.unusedVariables false
namespace Cal
open Go Go.Proofs
set_option maxRecDepth 100000
def guardI (P : Program) (d : Option Nat) (op : Op) (want : Bool) (v : AV) (st : St) (K : St → Prop) : Prop := andT (wantA want v) fun b => onB b (CallI P d op st K) (K (st.put d (.tup [])))
@[simp] theorem callIG_some (P : Program) (d : Option Nat) (op : Op) (t : Nat) (want : Bool) (st : St) (K : St → Prop) : CallIG P ⟨d, op, some (t, want)⟩ st K = guardI P d op want (st.tm t) st K := rfl
@[simp] theorem guardI_tt (P : Program) (d : Option Nat) (op : Op) (st : St) (K : St → Prop) : guardI P d op true (.t (.v (.bool true))) st K = CallI P d op st K := by simp [guardI, wantA]
@[simp] theorem guardI_ff (P : Program) (d : Option Nat) (op : Op) (st : St) (K : St → Prop) : guardI P d op false (.t (.v (.bool false))) st K = CallI P d op st K := by simp [guardI, wantA]
@[simp] theorem guardI_tf (P : Program) (d : Option Nat) (op : Op) (st : St) (K : St → Prop) : guardI P d op true (.t (.v (.bool false))) st K = K (st.put d (.tup [])) := by simp [guardI, wantA]
@[simp] theorem guardI_ft (P : Program) (d : Option Nat) (op : Op) (st : St) (K : St → Prop) : guardI P d op false (.t (.v (.bool true))) st K = K (st.put d (.tup [])) := by simp [guardI, wantA]
theorem wpX_splitX {P : Program} {lo : List Nat} {o : Op1} {post : List Op1} {K : St → Prop} : ∀ {pre : List Op1} {st : St}, wpM P false lo pre st (fun s => CallIG P o s fun s' => wpX P lo post (s'.kill (mk1 post)) K) → wpX P lo (pre ++ o :: post) st K
  | [], st, h => by
    unfold wpM at h
    rw [List.nil_append]
    unfold wpX
    exact .inr (h.mono fun s hs => hs)
  | a :: pre, st, h => by
    unfold wpM at h
    rw [List.cons_append]
    unfold wpX
    exact .inl (stepG_mono h fun s hs => wpX_splitX hs)
/-- Two calls of a region in line: the first. -/
theorem wp2_inlX {P : Program} {Q : Ex → St → Prop} {st : St} {mk lo : List Nat} {ops : List Op1} (n : Nat) {o : Op1} (ho : ops[n]? = some o) (h : wpM P false lo (ops.take n) (st.kill mk) (fun s => CallIG P o s fun s' => wpX P lo (ops.drop (n + 1)) (s'.kill (mk1 (ops.drop (n + 1)))) (Q .normal))) : wp2 P (.region mk false lo ops) Q st := by
  refine wp2_regionX ?_
  have : ops = ops.take n ++ o :: ops.drop (n + 1) := by
    obtain ⟨h1, h2⟩ := List.getElem?_eq_some_iff.1 ho
    subst h2
    rw [List.getElem_cons_drop, List.take_append_drop]
  rw [this]
  exact wpX_splitX h
/-- The next. -/
theorem wpX_inl {P : Program} {K : St → Prop} {st : St} {lo : List Nat} {ops : List Op1} (n : Nat) {o : Op1} (ho : ops[n]? = some o) (h : wpM P false lo (ops.take n) st (fun s => CallIG P o s fun s' => wpM P false lo (ops.drop (n + 1)) (s'.kill (mk1 (ops.drop (n + 1)))) K)) : wpX P lo ops st K := by
  have : ops = ops.take n ++ o :: ops.drop (n + 1) := by
    obtain ⟨h1, h2⟩ := List.getElem?_eq_some_iff.1 ho
    subst h2
    rw [List.getElem_cons_drop, List.take_append_drop]
  rw [this]
  exact wpX_split h
attribute [irreducible] guardI
@[simp] theorem pIfc_kill (ds : List Nat) : pIfc.kill ds = if ds.contains 79050 = true then .ifc 204 .bad else pIfc := by
  by_cases h : 79050 ∈ ds <;> simp [pIfc, AV.kill, h]
theorem pIfc_free : pIfc.free fun id => ¬ calm hE id := by
  unfold pIfc
  simp [AV.free, calm, hE]
/-- The body of a loop. -/
def k171_l0 : Code1 :=
 (.block 1
 (.seq
 (.region [] false ([]) [
 ⟨some 5,Op.move (Operand.tmp 1),none⟩,
 ⟨some 6,Op.binOp BinOp.sub 3 (Operand.tmp 5) (Operand.const (Value.int IntKind.i64 1)) 3,none⟩,
 ⟨some 7,Op.binOp BinOp.quo 3 (Operand.tmp 6) (Operand.const (Value.int IntKind.i64 2)) 3,none⟩,
 ⟨some 4,Op.assign (Operand.tmp 7),none⟩])
 (.seq
 (.seq
 (.region [15] false ([]) [
 ⟨some 8,Op.move (Operand.tmp 4),none⟩,
 ⟨some 9,Op.move (Operand.tmp 1),none⟩,
 ⟨some 10,Op.binOp BinOp.eql 3 (Operand.tmp 8) (Operand.tmp 9) 3,none⟩,
 ⟨some 11,Op.move (Operand.tmp 10),none⟩,
 ⟨some 12,Op.move (Operand.tmp 0),some (11,false)⟩,
 ⟨some 13,Op.move (Operand.tmp 1),some (11,false)⟩,
 ⟨some 14,Op.move (Operand.tmp 4),some (11,false)⟩,
 ⟨some 15,Op.call {callee:=Callee.invoke (Operand.tmp 12) "Less",args:=#[Operand.tmp 13,Operand.tmp 14],argTypes:=#[3,3]},some (11,false)⟩,
 ⟨some 16,Op.unOp UnOp.not 4 (Operand.tmp 15),some (11,false)⟩,
 ⟨some 17,Op.pick (Operand.tmp 11) (Operand.const (Value.bool true)) (Operand.tmp 16),none⟩])
 (.cond (Operand.tmp 17)
 (.exit 0)
 .skip))
 (.seq
 (.region [21] false ([]) [
 ⟨some 18,Op.move (Operand.tmp 0),none⟩,
 ⟨some 19,Op.move (Operand.tmp 4),none⟩,
 ⟨some 20,Op.move (Operand.tmp 1),none⟩,
 ⟨some 21,Op.call {callee:=Callee.invoke (Operand.tmp 18) "Swap",args:=#[Operand.tmp 19,Operand.tmp 20],argTypes:=#[3,3]},none⟩])
 (.region [] false ([]) [
 ⟨some 22,Op.move (Operand.tmp 4),none⟩,
 ⟨some 1,Op.assign (Operand.tmp 22),none⟩])))))
/-- The code of container/heap.up, its loops' bodies named. -/
def k171 : Code1 :=
 (.block 0
 (.loop k171_l0))
set_option maxHeartbeats 0 in
theorem up_p {l : List Rc} {n j : Nat} (hn : n = l.length) (hb : n ≤ 1000000) (hj : j < n) (hU : HeapUp l j) : InlP 171 [pIfc, .t (.v (.int .i64 j))] l n fun v l' n' => v = .tup [] ∧ n' = n ∧ l'.length = n ∧ Heap l' n ∧ ∀ x, x ∈ l' ↔ x ∈ l := by
  intro s hc ps R hR
  refine inl_of_wp2 (fn := Try.f171) (k := k171) (fun _ => []) mixed (by kernel_rfl) rfl (by kernel_rfl) (by kernel_rfl) rfl (by simp [Try.f171]) ?_
  generalize hst : s.body [pIfc, .t (.v (.int .i64 j))] = st0
  have q0 : ∀ F, Keep F s st0 := fun F => by rw [← hst]; exact (Keep.refl F s).body _
  have hob : st0.ob = s.ob := by rw [← hst]; rfl
  have t0 : st0.tm 0 = pIfc := by rw [← hst]; rfl
  have t1 : st0.tm 1 = .t (.v (.int .i64 j)) := by rw [← hst]; rfl
  clear hst
  unfold k171
  have hJ : ∀ (s1 : St) (l' : List Rc), Keep hF s s1 → PS s1 l' n → l'.length = n → Heap l' n → (∀ x, x ∈ l' ↔ x ∈ l) → BackI Try.prog [] R s1 := by
    intro s1 l' q1 p1 e1 e2 e3
    exact ⟨.tup [], by simp [resultA], hR _ _ l' n q1.bare ⟨p1.v, p1.r, p1.le⟩ ⟨rfl, rfl, e1, e2, e3⟩⟩
  repeat' (first
   | refine wp2_block ?_
   | simp (maxSteps := 4000000) (disch := omega) [])
  refine wp2_loop (fun m s1 => ∃ (l' : List Rc), Keep hF s s1 ∧ PS s1 l' n ∧ s1.tm 0 = pIfc ∧ s1.tm 1 = .t (.v (.int .i64 m)) ∧ m < n ∧ l'.length = n ∧ HeapUp l' m ∧ ∀ x, x ∈ l' ↔ x ∈ l) j ?_ ?_
  · exact ⟨l, q0 _, ⟨by rw [hob]; exact ps.v, by rw [hob]; exact ps.r, ps.le⟩, t0, t1, hj, hn.symm, hU, fun x => Iff.rfl⟩
  · rintro m s1 ⟨l', q1, p1, s10, s11, hm, e1, hu, e3⟩ K' hN
    unfold k171_l0
    have w0 : IntKind.i64.wrap 0 = 0 := by decide
    have w1 : IntKind.i64.wrap (-1) = -1 := by decide
    have w2 : (-1 : Int).tdiv 2 = 0 := by decide
    by_cases h0 : m = 0
    · subst h0
      repeat' (first
       | refine wp2_seq fun K hK => ?_
       | refine M_cons fun K hK => ?_
       | (refine hK _ ?_; clear hK K)
       | (refine hX _ ?_; clear hX hY X Y)
       | refine wp2_block ?_
       | refine wp2_inl (mk := [15]) 7 rfl ?_
       | refine wp2_region ?_
       | refine wp2_cond fun X Y hX hY => ?_
       | (refine condK_of (fun c => ?_) (fun c => ?_) <;> (try simp [-List.length_eq_zero_iff] at c))
       | simp (maxSteps := 4000000) (disch := omega) [s10, s11, w0, w1, w2, mk1, makes])
      exact hJ _ l' (by (repeat' first | exact q1 | exact q1 _ | refine Keep.put ?_ _ _ | refine Keep.setOb ?_ (by first | rfl | simp) _ | refine Keep.kill hc ?_ (by first | rfl | simp) | refine Keep.ren hc ?_ (by first | rfl | simp) | refine Keep.ren1 hc ?_ (by first | rfl | simp) | refine Keep.kill1 hc ?_ (by first | rfl | simp))) ⟨by simp [p1.v], by simp [p1.r], p1.le⟩ e1 (e1 ▸ hu.stop (.inl rfl)) e3
    · have w3 : ((m : Int) - 1).tdiv 2 = (((m - 1) / 2 : Nat) : Int) := by rw [Int.tdiv_eq_ediv_of_nonneg (by omega)]; omega
      have w4 : ¬ (((m - 1) / 2 : Nat) : Int) = (m : Int) := by omega
      generalize hp : (m - 1) / 2 = p at *
      have w5 : ¬ p = m := by omega
      have w6 : ((p : Int) == (m : Int)) = false := beq_eq_false_iff_ne.2 (by omega)
      repeat' (first
       | refine wp2_seq fun K hK => ?_
       | refine M_cons fun K hK => ?_
       | (refine hK _ ?_; clear hK K)
       | refine wp2_block ?_
       | refine wp2_inl (mk := [15]) 7 rfl ?_
       | refine wp2_region ?_
       | simp (maxSteps := 4000000) (disch := omega) [s10, s11, w3, w4, w5, w6, mk1, makes])
      generalize hst : St.put _ (some 14) _ = st4
      have q4 : Keep hF s st4 := by
        rw [← hst]
        (repeat' first | exact q1 | exact q1 _ | refine Keep.put ?_ _ _ | refine Keep.setOb ?_ (by first | rfl | simp) _ | refine Keep.kill hc ?_ (by first | rfl | simp) | refine Keep.ren hc ?_ (by first | rfl | simp) | refine Keep.ren1 hc ?_ (by first | rfl | simp) | refine Keep.kill1 hc ?_ (by first | rfl | simp))
      have p4 : PS st4 l' n := by
        rw [← hst]
        exact ⟨by simp [p1.v], by simp [p1.r], p1.le⟩
      have u : st4.tm 0 = pIfc ∧ st4.tm 1 = .t (.v (.int .i64 m)) ∧ st4.tm 4 = .t (.v (.int .i64 p)) ∧ st4.tm 11 = .t (.v (.bool false)) ∧ st4.tm 12 = pIfc ∧ st4.tm 13 = .t (.v (.int .i64 m)) ∧ st4.tm 14 = .t (.v (.int .i64 p)) := by
        rw [← hst]
        simp [s10, s11]
      obtain ⟨u0, u1, u4, u11, u12, u13, u14⟩ := u
      clear hst
      refine callP_val [0, 1, 4, 11, 12, 13, 14] ⟨Try.f223, by kernel_rfl, by kernel_rfl, rfl⟩ (by kernel_rfl) (by decide) u12 (vs := [.t (.v (.int .i64 m)), .t (.v (.int .i64 p))]) (by simp [u13, u14]) (less_p (by omega) hm (by omega)) hc q4 p4 (by simp [u0, u1, u4, u11, u12, u13, u14, AV.free, pIfc_free]) ?_
      rintro s3 v l2 n2 q3 p3 tm3 ⟨rfl, rfl, rfl⟩
      have u0' : s3.tm 0 = pIfc := by rw [tm3 0 (by decide), u0]
      have u1' : s3.tm 1 = .t (.v (.int .i64 m)) := by rw [tm3 1 (by decide), u1]
      have u4' : s3.tm 4 = .t (.v (.int .i64 p)) := by rw [tm3 4 (by decide), u4]
      have u11' : s3.tm 11 = .t (.v (.bool false)) := by rw [tm3 11 (by decide), u11]
      clear u0 u1 u4 u11 u12 u13 u14 q4 p4 tm3
      by_cases hlt : Lt (nth l2 m) (nth l2 p)
      · repeat' (first
       | refine wp2_seq fun K hK => ?_
       | refine M_cons fun K hK => ?_
       | (refine hK _ ?_; clear hK K)
       | (refine hY _ ?_; clear hX hY X Y)
       | refine wp2_inl (mk := [21]) 3 rfl ?_
       | refine wp2_cond fun X Y hX hY => ?_
       | (refine condK_of (fun c => ?_) (fun c => ?_) <;> (try simp [-List.length_eq_zero_iff] at c))
       | simp (maxSteps := 4000000) (disch := omega) [u0', u1', u4', u11', hlt, mk1, makes])
        generalize hst : St.put _ (some 20) _ = st5
        have q5 : Keep hF s st5 := by
          rw [← hst]
          (repeat' first | exact q3 | exact q3 _ | refine Keep.put ?_ _ _ | refine Keep.setOb ?_ (by first | rfl | simp) _ | refine Keep.kill hc ?_ (by first | rfl | simp) | refine Keep.ren hc ?_ (by first | rfl | simp) | refine Keep.ren1 hc ?_ (by first | rfl | simp) | refine Keep.kill1 hc ?_ (by first | rfl | simp))
        have p5 : PS st5 l2 n2 := by
          rw [← hst]
          exact ⟨by simp [p3.v], by simp [p3.r], p3.le⟩
        have u : st5.tm 0 = pIfc ∧ st5.tm 4 = .t (.v (.int .i64 p)) ∧ st5.tm 18 = pIfc ∧ st5.tm 19 = .t (.v (.int .i64 p)) ∧ st5.tm 20 = .t (.v (.int .i64 m)) := by
          rw [← hst]
          simp [u0', u1', u4']
        obtain ⟨u0, u4, u18, u19, u20⟩ := u
        clear hst
        refine callP_val [0, 4, 18, 19, 20] ⟨Try.f226, by kernel_rfl, by kernel_rfl, rfl⟩ (by kernel_rfl) (by decide) u18 (vs := [.t (.v (.int .i64 p)), .t (.v (.int .i64 m))]) (by simp [u19, u20]) (swap_p (by omega) (by omega) hm) hc q5 p5 (by simp [u0, u4, u18, u19, u20, AV.free, pIfc_free]) ?_
        rintro s6 v l3 n3 q6 p6 tm6 ⟨rfl, rfl⟩
        have u0'' : s6.tm 0 = pIfc := by rw [tm6 0 (by decide), u0]
        have u4'' : s6.tm 4 = .t (.v (.int .i64 p)) := by rw [tm6 4 (by decide), u4]
        clear u0 u4 u18 u19 u20 q5 p5 tm6 q3 p3
        repeat' (first
         | refine M_cons fun K hK => ?_
         | (refine hK _ ?_; clear hK K)
         | refine wp2_region ?_
         | simp (maxSteps := 4000000) (disch := omega) [u0'', u4'', mk1, makes])
        have e4 : (m - 1) / 2 = p := hp
        subst e4
        refine hN ((m - 1) / 2) _ (by omega) ⟨swapL l2 ((m - 1) / 2) m, ?_, ⟨by simp [p6.v], by simp [p6.r], p6.le⟩, by simp [u0''], by simp, by omega, by rw [swapL_len, e1], hu.step (by omega) (by omega) hlt, fun x => by rw [swapL_mem (by omega) (by omega)]; exact e3 x⟩
        (repeat' first | exact q6 | exact q6 _ | refine Keep.put ?_ _ _ | refine Keep.setOb ?_ (by first | rfl | simp) _ | refine Keep.kill hc ?_ (by first | rfl | simp) | refine Keep.ren hc ?_ (by first | rfl | simp) | refine Keep.ren1 hc ?_ (by first | rfl | simp) | refine Keep.kill1 hc ?_ (by first | rfl | simp))
      · repeat' (first
       | refine M_cons fun K hK => ?_
       | (refine hK _ ?_; clear hK K)
       | (refine hX _ ?_; clear hX hY X Y)
       | refine wp2_cond fun X Y hX hY => ?_
       | (refine condK_of (fun c => ?_) (fun c => ?_) <;> (try simp [-List.length_eq_zero_iff] at c))
       | simp (maxSteps := 4000000) (disch := omega) [u0', u1', u4', u11', hlt, mk1, makes])
        exact hJ _ l2 (by (repeat' first | exact q3 | exact q3 _ | refine Keep.put ?_ _ _ | refine Keep.setOb ?_ (by first | rfl | simp) _ | refine Keep.kill hc ?_ (by first | rfl | simp) | refine Keep.ren hc ?_ (by first | rfl | simp) | refine Keep.ren1 hc ?_ (by first | rfl | simp) | refine Keep.kill1 hc ?_ (by first | rfl | simp))) ⟨by simp [p3.v], by simp [p3.r], p3.le⟩ e1 (e1 ▸ hu.stop (.inr (by rw [hp]; exact not_Lt.1 hlt))) e3
end Cal

/- A heap in line: down. Printed by HCgen.py. -/
set_option linter.unusedSimpArgs false
set_option linter.unusedVariables false
namespace Cal
open Go Go.Proofs
set_option maxRecDepth 100000
theorem swapL_out {l : List Rc} {i j n : Nat} (hi : i < n) (hj : j < n) (hn : n ≤ l.length) : (∀ k : Nat, n ≤ k → nth (swapL l i j) k = nth l k) ∧ ∀ x, x ∈ (swapL l i j).take n ↔ x ∈ l.take n := by
  refine ⟨fun k hk => ?_, fun x => ?_⟩
  · rw [swapL_at (by omega) (by omega), if_neg (by omega), if_neg (by omega)]
  · have e : (swapL l i j).take n = swapL (l.take n) i j := by
      have g : ∀ k : Nat, k < n → nth (l.take n) (k : Int) = nth l k := by
        intro k hk
        unfold nth
        simp only [Int.toNat_natCast, List.getD_eq_getElem?_getD]
        rw [List.getElem?_take, if_pos hk]
      unfold swapL
      rw [List.take_set, List.take_set, g i hi, g j hj]
    rw [e]
    exact swapL_mem (by rw [List.length_take]; omega) (by rw [List.length_take]; omega) x
/-- What down leaves. -/
structure Dn (l l' : List Rc) (n : Nat) : Prop where
  len : l'.length = l.length
  out : ∀ k : Nat, n ≤ k → nth l' k = nth l k
  mem : ∀ x, x ∈ l'.take n ↔ x ∈ l.take n
theorem Dn.swap {l l' : List Rc} {n i j : Nat} (h : Dn l l' n) (hn : n ≤ l.length) (hi : i < n) (hj : j < n) : Dn l (swapL l' i j) n := by
  obtain ⟨a, b⟩ := swapL_out (l := l') hi hj (by rw [h.len]; exact hn)
  exact ⟨by rw [swapL_len, h.len], fun k hk => (a k hk).trans (h.out k hk), fun x => (b x).trans (h.mem x)⟩
/-- The body of a loop. -/
def k170_l0 : Code1 :=
 (.block 1
 (.seq
 (.region [] false ([]) [
 ⟨some 12,Op.move (Operand.tmp 7),none⟩,
 ⟨some 13,Op.binOp BinOp.mul 3 (Operand.const (Value.int IntKind.i64 2)) (Operand.tmp 12) 3,none⟩,
 ⟨some 14,Op.binOp BinOp.add 3 (Operand.tmp 13) (Operand.const (Value.int IntKind.i64 1)) 3,none⟩,
 ⟨some 8,Op.assign (Operand.tmp 14),none⟩])
 (.seq
 (.seq
 (.region [] false ([]) [
 ⟨some 15,Op.move (Operand.tmp 8),none⟩,
 ⟨some 16,Op.move (Operand.tmp 2),none⟩,
 ⟨some 17,Op.binOp BinOp.geq 3 (Operand.tmp 15) (Operand.tmp 16) 3,none⟩,
 ⟨some 18,Op.move (Operand.tmp 17),none⟩,
 ⟨some 19,Op.move (Operand.tmp 8),some (18,false)⟩,
 ⟨some 20,Op.binOp BinOp.lss 3 (Operand.tmp 19) (Operand.const (Value.int IntKind.i64 0)) 3,some (18,false)⟩,
 ⟨some 21,Op.pick (Operand.tmp 18) (Operand.const (Value.bool true)) (Operand.tmp 20),none⟩])
 (.cond (Operand.tmp 21)
 (.exit 0)
 .skip))
 (.seq
 (.region [] false ([]) [
 ⟨some 22,Op.move (Operand.tmp 8),none⟩,
 ⟨some 9,Op.assign (Operand.tmp 22),none⟩])
 (.seq
 (.seq
 (.region [] false ([]) [
 ⟨some 23,Op.move (Operand.tmp 8),none⟩,
 ⟨some 24,Op.binOp BinOp.add 3 (Operand.tmp 23) (Operand.const (Value.int IntKind.i64 1)) 3,none⟩,
 ⟨some 10,Op.assign (Operand.tmp 24),none⟩])
 (.seq
 (.region [32] false ([]) [
 ⟨some 25,Op.move (Operand.tmp 10),none⟩,
 ⟨some 26,Op.move (Operand.tmp 2),none⟩,
 ⟨some 27,Op.binOp BinOp.lss 3 (Operand.tmp 25) (Operand.tmp 26) 3,none⟩,
 ⟨some 28,Op.move (Operand.tmp 27),none⟩,
 ⟨some 29,Op.move (Operand.tmp 0),some (28,true)⟩,
 ⟨some 30,Op.move (Operand.tmp 10),some (28,true)⟩,
 ⟨some 31,Op.move (Operand.tmp 8),some (28,true)⟩,
 ⟨some 32,Op.call {callee:=Callee.invoke (Operand.tmp 29) "Less",args:=#[Operand.tmp 30,Operand.tmp 31],argTypes:=#[3,3]},some (28,true)⟩,
 ⟨some 33,Op.pick (Operand.tmp 28) (Operand.tmp 32) (Operand.const (Value.bool false)),none⟩])
 (.cond (Operand.tmp 33)
 (.region [] false ([]) [
 ⟨some 34,Op.move (Operand.tmp 10),none⟩,
 ⟨some 9,Op.assign (Operand.tmp 34),none⟩])
 .skip)))
 (.seq
 (.seq
 (.region [38] false ([]) [
 ⟨some 35,Op.move (Operand.tmp 0),none⟩,
 ⟨some 36,Op.move (Operand.tmp 9),none⟩,
 ⟨some 37,Op.move (Operand.tmp 7),none⟩,
 ⟨some 38,Op.call {callee:=Callee.invoke (Operand.tmp 35) "Less",args:=#[Operand.tmp 36,Operand.tmp 37],argTypes:=#[3,3]},none⟩,
 ⟨some 39,Op.unOp UnOp.not 4 (Operand.tmp 38),none⟩])
 (.cond (Operand.tmp 39)
 (.exit 0)
 .skip))
 (.seq
 (.region [43] false ([]) [
 ⟨some 40,Op.move (Operand.tmp 0),none⟩,
 ⟨some 41,Op.move (Operand.tmp 7),none⟩,
 ⟨some 42,Op.move (Operand.tmp 9),none⟩,
 ⟨some 43,Op.call {callee:=Callee.invoke (Operand.tmp 40) "Swap",args:=#[Operand.tmp 41,Operand.tmp 42],argTypes:=#[3,3]},none⟩])
 (.region [] false ([]) [
 ⟨some 44,Op.move (Operand.tmp 9),none⟩,
 ⟨some 7,Op.assign (Operand.tmp 44),none⟩]))))))))
/-- The code of container/heap.down, its loops' bodies named. -/
def k170 : Code1 :=
 (.seq
 (.region [] false ([]) [
 ⟨some 6,Op.assign (Operand.const (Value.bool false)),none⟩])
 (.seq
 (.region [] false ([]) [
 ⟨some 11,Op.move (Operand.tmp 1),none⟩,
 ⟨some 7,Op.assign (Operand.tmp 11),none⟩])
 (.seq
 (.block 0
 (.loop k170_l0))
 (.seq
 (.region [] false ([]) [
 ⟨some 45,Op.move (Operand.tmp 7),none⟩,
 ⟨some 46,Op.move (Operand.tmp 1),none⟩,
 ⟨some 47,Op.binOp BinOp.gtr 3 (Operand.tmp 45) (Operand.tmp 46) 3,none⟩,
 ⟨some 6,Op.assign (Operand.tmp 47),none⟩])
 .ret))))
set_option maxHeartbeats 0 in
theorem down_p {l : List Rc} {n N : Nat} (hN : N ≤ l.length) (hb : N ≤ 1000000) (hn : n ≤ N) (hD : HeapDn l n 0) : InlP 170 [pIfc, .t (.v (.int .i64 0)), .t (.v (.int .i64 n))] l N fun v l' N' => N' = N ∧ Dn l l' n ∧ Heap l' n := by
  intro s hc ps R hR
  refine inl_of_wp2 (fn := Try.f170) (k := k170) (fun _ => []) mixed (by kernel_rfl) rfl (by kernel_rfl) (by kernel_rfl) rfl (by simp [Try.f170]) ?_
  generalize hst : s.body [pIfc, .t (.v (.int .i64 0)), .t (.v (.int .i64 n))] = st0
  have q0 : ∀ F, Keep F s st0 := fun F => by rw [← hst]; exact (Keep.refl F s).body _
  have hob : st0.ob = s.ob := by rw [← hst]; rfl
  have t0 : st0.tm 0 = pIfc := by rw [← hst]; rfl
  have t1 : st0.tm 1 = .t (.v (.int .i64 0)) := by rw [← hst]; rfl
  have t2 : st0.tm 2 = .t (.v (.int .i64 n)) := by rw [← hst]; rfl
  clear hst
  unfold k170
  repeat' (first
   | refine wp2_seq fun K hK => ?_
   | refine M_cons fun K hK => ?_
   | (refine hK _ ?_; clear hK K)
   | refine wp2_block ?_
   | refine wp2_region ?_
   | simp (maxSteps := 4000000) (disch := omega) [t0, t1, t2])
  have hJ : ∀ (s1 : St) (l' : List Rc) (i : Nat), Keep hF s s1 → PS s1 l' N → s1.tm 1 = .t (.v (.int .i64 0)) → s1.tm 7 = .t (.v (.int .i64 i)) → Dn l l' n → Heap l' n → K s1 := by
    intro s1 l' i q1 p1 s11 s17 e1 e2
    repeat' (first
     | refine wp2_seq fun K hK => ?_
     | refine M_cons fun K hK => ?_
     | (refine hK _ ?_; clear hK K)
     | refine wp2_region ?_
     | simp (maxSteps := 4000000) (disch := omega) [s11, s17])
    refine ⟨.t (.v (.bool (decide (0 < (i : Int))))), by simp [resultA, resA], hR _ _ l' N (Keep.bare ?_) ⟨by simp [p1.v], by simp [p1.r], p1.le⟩ ⟨rfl, e1, e2⟩⟩
    (repeat' first | exact q1 | exact q1 _ | refine Keep.put ?_ _ _ | refine Keep.setOb ?_ (by first | rfl | simp) _ | refine Keep.kill hc ?_ (by first | rfl | simp) | refine Keep.ren hc ?_ (by first | rfl | simp) | refine Keep.ren1 hc ?_ (by first | rfl | simp) | refine Keep.kill1 hc ?_ (by first | rfl | simp))
  clear hK
  refine wp2_loop (fun m s1 => ∃ (l' : List Rc) (i : Nat), Keep hF s s1 ∧ PS s1 l' N ∧ s1.tm 0 = pIfc ∧ s1.tm 1 = .t (.v (.int .i64 0)) ∧ s1.tm 2 = .t (.v (.int .i64 n)) ∧ s1.tm 7 = .t (.v (.int .i64 i)) ∧ m = n - i ∧ Dn l l' n ∧ HeapDn l' n i ∧ i ≤ n) n ?_ ?_
  · refine ⟨l, 0, ?_, ⟨by simp [hob, ps.v], by simp [hob, ps.r], ps.le⟩, by simp [t0], by simp [t1], by simp [t2], by simp, by omega, ⟨rfl, fun _ _ => rfl, fun _ => Iff.rfl⟩, hD, by omega⟩
    (repeat' first | exact q0 | exact q0 _ | refine Keep.put ?_ _ _ | refine Keep.setOb ?_ (by first | rfl | simp) _ | refine Keep.kill hc ?_ (by first | rfl | simp) | refine Keep.ren hc ?_ (by first | rfl | simp) | refine Keep.ren1 hc ?_ (by first | rfl | simp) | refine Keep.kill1 hc ?_ (by first | rfl | simp))
  · rintro m s1 ⟨l', i, q1, p1, s10, s11, s12, s17, rfl, e1, hd, hin⟩ K' hL
    unfold k170_l0
    have el := e1.len
    have lim1 := p1.le
    by_cases h1 : (n : Int) ≤ 2 * i + 1
    · repeat' (first
     | refine wp2_seq fun K hK => ?_
     | refine M_cons fun K hK => ?_
     | (refine hK _ ?_; clear hK K)
     | (refine hX _ ?_; clear hX hY X Y)
     | refine wp2_block ?_
     | refine wp2_region ?_
     | refine wp2_cond fun X Y hX hY => ?_
     | (refine condK_of (fun c => ?_) (fun c => ?_) <;> (try simp [-List.length_eq_zero_iff] at c))
     | simp (maxSteps := 4000000) (disch := omega) [s10, s11, s12, s17, h1, mk1, makes])
      all_goals first | omega | skip
      refine hJ _ l' i ?_ ⟨by simp [p1.v], by simp [p1.r], p1.le⟩ (by simp [s11]) (by simp [s17]) e1 (hd.stop fun k k0 k1 k2 => by omega)
      (repeat' first | exact q1 | exact q1 _ | refine Keep.put ?_ _ _ | refine Keep.setOb ?_ (by first | rfl | simp) _ | refine Keep.kill hc ?_ (by first | rfl | simp) | refine Keep.ren hc ?_ (by first | rfl | simp) | refine Keep.ren1 hc ?_ (by first | rfl | simp) | refine Keep.kill1 hc ?_ (by first | rfl | simp))
    · have h1' : ¬ 2 * (i : Int) + 1 < 0 := by omega
      by_cases h2 : 2 * (i : Int) + 1 + 1 < n
      · repeat' (first
       | refine wp2_seq fun K hK => ?_
       | refine M_cons fun K hK => ?_
       | (refine hK _ ?_; clear hK K)
       | (refine hY _ ?_; clear hX hY X Y)
       | refine wp2_block ?_
       | refine wp2_inl (mk := [32]) 7 rfl ?_
       | refine wp2_region ?_
       | refine wp2_cond fun X Y hX hY => ?_
       | (refine condK_of (fun c => ?_) (fun c => ?_) <;> (try simp [-List.length_eq_zero_iff] at c))
       | simp (maxSteps := 4000000) (disch := omega) [s10, s11, s12, s17, h1, h1', h2, mk1, makes])
        all_goals first | omega | skip
        generalize hst : St.put _ (some 31) _ = st4
        have q4 : Keep hF s st4 := by
          rw [← hst]
          (repeat' first | exact q1 | exact q1 _ | refine Keep.put ?_ _ _ | refine Keep.setOb ?_ (by first | rfl | simp) _ | refine Keep.kill hc ?_ (by first | rfl | simp) | refine Keep.ren hc ?_ (by first | rfl | simp) | refine Keep.ren1 hc ?_ (by first | rfl | simp) | refine Keep.kill1 hc ?_ (by first | rfl | simp))
        have p4 : PS st4 l' N := by
          rw [← hst]
          exact ⟨by simp [p1.v], by simp [p1.r], p1.le⟩
        have u : st4.tm 0 = pIfc ∧ st4.tm 1 = .t (.v (.int .i64 0)) ∧ st4.tm 2 = .t (.v (.int .i64 n)) ∧ st4.tm 7 = .t (.v (.int .i64 i)) ∧ st4.tm 8 = .t (.v (.int .i64 (2 * i + 1 : Nat))) ∧ st4.tm 9 = .t (.v (.int .i64 (2 * i + 1 : Nat))) ∧ st4.tm 10 = .t (.v (.int .i64 (2 * i + 2 : Nat))) ∧ st4.tm 28 = .t (.v (.bool true)) ∧ st4.tm 29 = pIfc ∧ st4.tm 30 = .t (.v (.int .i64 (2 * i + 2 : Nat))) ∧ st4.tm 31 = .t (.v (.int .i64 (2 * i + 1 : Nat))) := by
          rw [← hst]
          simp [s10, s11, s12, s17]
          omega
        obtain ⟨u0, u1, u2, u7, u8, u9, u10, u28, u29, u30, u31⟩ := u
        clear hst
        refine callP_val [0, 1, 2, 7, 8, 9, 10, 28, 29, 30, 31] ⟨Try.f223, by kernel_rfl, by kernel_rfl, rfl⟩ (by kernel_rfl) (by decide) u29 (vs := [.t (.v (.int .i64 (2 * i + 2 : Nat))), .t (.v (.int .i64 (2 * i + 1 : Nat)))]) (by simp [-Int.natCast_add, -Int.natCast_mul, u30, u31]) (less_p (by omega) (by omega) (by omega)) hc q4 p4 (by simp [u0, u1, u2, u7, u8, u9, u10, u28, u29, u30, u31, AV.free, pIfc_free]) ?_
        rintro s3 v l2 n2 q3 p3 tm3 ⟨rfl, rfl, rfl⟩
        have v0 : s3.tm 0 = pIfc := by rw [tm3 0 (by decide), u0]
        have v1 : s3.tm 1 = .t (.v (.int .i64 0)) := by rw [tm3 1 (by decide), u1]
        have v2 : s3.tm 2 = .t (.v (.int .i64 n)) := by rw [tm3 2 (by decide), u2]
        have v7 : s3.tm 7 = .t (.v (.int .i64 i)) := by rw [tm3 7 (by decide), u7]
        have v8 : s3.tm 8 = .t (.v (.int .i64 (2 * i + 1 : Nat))) := by rw [tm3 8 (by decide), u8]
        have v9 : s3.tm 9 = .t (.v (.int .i64 (2 * i + 1 : Nat))) := by rw [tm3 9 (by decide), u9]
        have v10 : s3.tm 10 = .t (.v (.int .i64 (2 * i + 2 : Nat))) := by rw [tm3 10 (by decide), u10]
        have v28 : s3.tm 28 = .t (.v (.bool true)) := by rw [tm3 28 (by decide), u28]
        clear u0 u1 u2 u7 u8 u9 u10 u28 u29 u30 u31 q4 p4 tm3
        by_cases hlt : Lt (nth l2 (2 * i + 2 : Nat)) (nth l2 (2 * i + 1 : Nat))
        · generalize hj : 2 * i + 2 = j at *
          generalize hj1 : 2 * i + 1 = j1 at *
          repeat' (first
           | refine wp2_seq fun K hK => ?_
           | refine M_cons fun K hK => ?_
           | (refine hK _ ?_; clear hK K)
           | (refine hX _ ?_; clear hX hY X Y)
           | refine wp2_inl (mk := [38]) 3 rfl ?_
           | refine wp2_region ?_
           | refine wp2_cond fun X Y hX hY => ?_
           | (refine condK_of (fun c => ?_) (fun c => ?_) <;> (try simp [-List.length_eq_zero_iff] at c))
           | simp (maxSteps := 4000000) (disch := omega) [v0, v1, v2, v7, v8, v9, v10, v28, hlt, mk1, makes])
          generalize hst : St.put _ (some 37) _ = st5
          have q5 : Keep hF s st5 := by
            rw [← hst]
            (repeat' first | exact q3 | exact q3 _ | refine Keep.put ?_ _ _ | refine Keep.setOb ?_ (by first | rfl | simp) _ | refine Keep.kill hc ?_ (by first | rfl | simp) | refine Keep.ren hc ?_ (by first | rfl | simp) | refine Keep.ren1 hc ?_ (by first | rfl | simp) | refine Keep.kill1 hc ?_ (by first | rfl | simp))
          have p5 : PS st5 l2 n2 := by
            rw [← hst]
            exact ⟨by simp [p3.v], by simp [p3.r], p3.le⟩
          have u : st5.tm 0 = pIfc ∧ st5.tm 1 = .t (.v (.int .i64 0)) ∧ st5.tm 2 = .t (.v (.int .i64 n)) ∧ st5.tm 7 = .t (.v (.int .i64 i)) ∧ st5.tm 9 = .t (.v (.int .i64 j)) ∧ st5.tm 35 = pIfc ∧ st5.tm 36 = .t (.v (.int .i64 j)) ∧ st5.tm 37 = .t (.v (.int .i64 i)) := by
            rw [← hst]
            simp [v0, v1, v2, v7, v8, v9, v10]
          obtain ⟨u0, u1, u2, u7, u9, u35, u36, u37⟩ := u
          clear hst
          have sm : ∀ k : Nat, 0 < k → k < n → (k - 1) / 2 = i → Le (nth l2 j) (nth l2 k) := fun k k0 k1 k2 => by
            rcases (show k = j ∨ k = j1 by omega) with rfl | rfl
            · exact Le.refl _
            · exact hlt.le
          refine callP_val [0, 1, 2, 7, 9, 35, 36, 37] ⟨Try.f223, by kernel_rfl, by kernel_rfl, rfl⟩ (by kernel_rfl) (by decide) u35 (vs := [.t (.v (.int .i64 j)), .t (.v (.int .i64 i))]) (by simp [u36, u37]) (less_p (by omega) (by omega) (by omega)) hc q5 p5 (by simp [u0, u1, u2, u7, u9, u35, u36, u37, AV.free, pIfc_free]) ?_
          rintro s6 v l3 n3 q6 p6 tm6 ⟨rfl, rfl, rfl⟩
          have w0 : s6.tm 0 = pIfc := by rw [tm6 0 (by decide), u0]
          have w1 : s6.tm 1 = .t (.v (.int .i64 0)) := by rw [tm6 1 (by decide), u1]
          have w2 : s6.tm 2 = .t (.v (.int .i64 n)) := by rw [tm6 2 (by decide), u2]
          have w7 : s6.tm 7 = .t (.v (.int .i64 i)) := by rw [tm6 7 (by decide), u7]
          have w9 : s6.tm 9 = .t (.v (.int .i64 j)) := by rw [tm6 9 (by decide), u9]
          clear u0 u1 u2 u7 u9 u35 u36 u37 q5 p5 tm6
          by_cases hl2 : Lt (nth l3 j) (nth l3 i)
          · repeat' (first
           | refine wp2_seq fun K hK => ?_
           | refine M_cons fun K hK => ?_
           | (refine hK _ ?_; clear hK K)
           | (refine hY _ ?_; clear hX hY X Y)
           | refine wp2_inl (mk := [43]) 3 rfl ?_
           | refine wp2_cond fun X Y hX hY => ?_
           | (refine condK_of (fun c => ?_) (fun c => ?_) <;> (try simp [-List.length_eq_zero_iff] at c))
           | simp (maxSteps := 4000000) (disch := omega) [w0, w1, w2, w7, w9, hl2, mk1, makes])
            generalize hst : St.put _ (some 42) _ = st7
            have q7 : Keep hF s st7 := by
              rw [← hst]
              (repeat' first | exact q6 | exact q6 _ | refine Keep.put ?_ _ _ | refine Keep.setOb ?_ (by first | rfl | simp) _ | refine Keep.kill hc ?_ (by first | rfl | simp) | refine Keep.ren hc ?_ (by first | rfl | simp) | refine Keep.ren1 hc ?_ (by first | rfl | simp) | refine Keep.kill1 hc ?_ (by first | rfl | simp))
            have p7 : PS st7 l3 n3 := by
              rw [← hst]
              exact ⟨by simp [p6.v], by simp [p6.r], p6.le⟩
            have u : st7.tm 0 = pIfc ∧ st7.tm 1 = .t (.v (.int .i64 0)) ∧ st7.tm 2 = .t (.v (.int .i64 n)) ∧ st7.tm 7 = .t (.v (.int .i64 i)) ∧ st7.tm 9 = .t (.v (.int .i64 j)) ∧ st7.tm 40 = pIfc ∧ st7.tm 41 = .t (.v (.int .i64 i)) ∧ st7.tm 42 = .t (.v (.int .i64 j)) := by
              rw [← hst]
              simp [w0, w1, w2, w7, w9]
            obtain ⟨u0, u1, u2, u7, u9, u40, u41, u42⟩ := u
            clear hst
            refine callP_val [0, 1, 2, 7, 9, 40, 41, 42] ⟨Try.f226, by kernel_rfl, by kernel_rfl, rfl⟩ (by kernel_rfl) (by decide) u40 (vs := [.t (.v (.int .i64 i)), .t (.v (.int .i64 j))]) (by simp [u41, u42]) (swap_p (by omega) (by omega) (by omega)) hc q7 p7 (by simp [u0, u1, u2, u7, u9, u40, u41, u42, AV.free, pIfc_free]) ?_
            rintro s8 v l4 n4 q8 p8 tm8 ⟨rfl, rfl⟩
            have x0 : s8.tm 0 = pIfc := by rw [tm8 0 (by decide), u0]
            have x1 : s8.tm 1 = .t (.v (.int .i64 0)) := by rw [tm8 1 (by decide), u1]
            have x2 : s8.tm 2 = .t (.v (.int .i64 n)) := by rw [tm8 2 (by decide), u2]
            have x9 : s8.tm 9 = .t (.v (.int .i64 j)) := by rw [tm8 9 (by decide), u9]
            clear u0 u1 u2 u7 u9 u40 u41 u42 q7 p7 tm8
            repeat' (first
             | refine M_cons fun K hK => ?_
             | (refine hK _ ?_; clear hK K)
             | refine wp2_region ?_
             | simp (maxSteps := 4000000) (disch := omega) [x0, x1, x2, x9, mk1, makes])
            refine hL (n - j) _ (by omega) ⟨swapL l3 i j, j, ?_, ⟨by simp [p8.v], by simp [p8.r], p8.le⟩, by simp [x0], by simp [x1], by simp [x2], by simp, rfl, e1.swap (by omega) (by omega) (by omega), hd.step (by omega) (by omega) (by omega) (by omega) hl2 sm, by omega⟩
            (repeat' first | exact q8 | exact q8 _ | refine Keep.put ?_ _ _ | refine Keep.setOb ?_ (by first | rfl | simp) _ | refine Keep.kill hc ?_ (by first | rfl | simp) | refine Keep.ren hc ?_ (by first | rfl | simp) | refine Keep.ren1 hc ?_ (by first | rfl | simp) | refine Keep.kill1 hc ?_ (by first | rfl | simp))
          · repeat' (first
           | refine M_cons fun K hK => ?_
           | (refine hK _ ?_; clear hK K)
           | (refine hX _ ?_; clear hX hY X Y)
           | refine wp2_cond fun X Y hX hY => ?_
           | (refine condK_of (fun c => ?_) (fun c => ?_) <;> (try simp [-List.length_eq_zero_iff] at c))
           | simp (maxSteps := 4000000) (disch := omega) [w0, w1, w2, w7, w9, hl2, mk1, makes])
            refine hJ _ l3 i ?_ ⟨by simp [p6.v], by simp [p6.r], p6.le⟩ (by simp [w1]) (by simp [w7]) e1 (hd.stop fun k k0 k1 k2 => (not_Lt.1 hl2).trans (sm k k0 k1 k2))
            (repeat' first | exact q6 | exact q6 _ | refine Keep.put ?_ _ _ | refine Keep.setOb ?_ (by first | rfl | simp) _ | refine Keep.kill hc ?_ (by first | rfl | simp) | refine Keep.ren hc ?_ (by first | rfl | simp) | refine Keep.ren1 hc ?_ (by first | rfl | simp) | refine Keep.kill1 hc ?_ (by first | rfl | simp))
        · generalize hj : 2 * i + 2 = j2 at *
          generalize hj1 : 2 * i + 1 = j at *
          repeat' (first
           | refine wp2_seq fun K hK => ?_
           | refine M_cons fun K hK => ?_
           | (refine hK _ ?_; clear hK K)
           | (refine hY _ ?_; clear hX hY X Y)
           | refine wp2_inl (mk := [38]) 3 rfl ?_
           | refine wp2_cond fun X Y hX hY => ?_
           | (refine condK_of (fun c => ?_) (fun c => ?_) <;> (try simp [-List.length_eq_zero_iff] at c))
           | simp (maxSteps := 4000000) (disch := omega) [v0, v1, v2, v7, v8, v9, v10, v28, hlt, mk1, makes])
          generalize hst : St.put _ (some 37) _ = st5
          have q5 : Keep hF s st5 := by
            rw [← hst]
            (repeat' first | exact q3 | exact q3 _ | refine Keep.put ?_ _ _ | refine Keep.setOb ?_ (by first | rfl | simp) _ | refine Keep.kill hc ?_ (by first | rfl | simp) | refine Keep.ren hc ?_ (by first | rfl | simp) | refine Keep.ren1 hc ?_ (by first | rfl | simp) | refine Keep.kill1 hc ?_ (by first | rfl | simp))
          have p5 : PS st5 l2 n2 := by
            rw [← hst]
            exact ⟨by simp [p3.v], by simp [p3.r], p3.le⟩
          have u : st5.tm 0 = pIfc ∧ st5.tm 1 = .t (.v (.int .i64 0)) ∧ st5.tm 2 = .t (.v (.int .i64 n)) ∧ st5.tm 7 = .t (.v (.int .i64 i)) ∧ st5.tm 9 = .t (.v (.int .i64 j)) ∧ st5.tm 35 = pIfc ∧ st5.tm 36 = .t (.v (.int .i64 j)) ∧ st5.tm 37 = .t (.v (.int .i64 i)) := by
            rw [← hst]
            simp [v0, v1, v2, v7, v8, v9, v10]
          obtain ⟨u0, u1, u2, u7, u9, u35, u36, u37⟩ := u
          clear hst
          have sm : ∀ k : Nat, 0 < k → k < n → (k - 1) / 2 = i → Le (nth l2 j) (nth l2 k) := fun k k0 k1 k2 => by
            rcases (show k = j ∨ k = j2 by omega) with rfl | rfl
            · exact Le.refl _
            · exact not_Lt.1 hlt
          refine callP_val [0, 1, 2, 7, 9, 35, 36, 37] ⟨Try.f223, by kernel_rfl, by kernel_rfl, rfl⟩ (by kernel_rfl) (by decide) u35 (vs := [.t (.v (.int .i64 j)), .t (.v (.int .i64 i))]) (by simp [u36, u37]) (less_p (by omega) (by omega) (by omega)) hc q5 p5 (by simp [u0, u1, u2, u7, u9, u35, u36, u37, AV.free, pIfc_free]) ?_
          rintro s6 v l3 n3 q6 p6 tm6 ⟨rfl, rfl, rfl⟩
          have w0 : s6.tm 0 = pIfc := by rw [tm6 0 (by decide), u0]
          have w1 : s6.tm 1 = .t (.v (.int .i64 0)) := by rw [tm6 1 (by decide), u1]
          have w2 : s6.tm 2 = .t (.v (.int .i64 n)) := by rw [tm6 2 (by decide), u2]
          have w7 : s6.tm 7 = .t (.v (.int .i64 i)) := by rw [tm6 7 (by decide), u7]
          have w9 : s6.tm 9 = .t (.v (.int .i64 j)) := by rw [tm6 9 (by decide), u9]
          clear u0 u1 u2 u7 u9 u35 u36 u37 q5 p5 tm6
          by_cases hl2 : Lt (nth l3 j) (nth l3 i)
          · repeat' (first
           | refine wp2_seq fun K hK => ?_
           | refine M_cons fun K hK => ?_
           | (refine hK _ ?_; clear hK K)
           | (refine hY _ ?_; clear hX hY X Y)
           | refine wp2_inl (mk := [43]) 3 rfl ?_
           | refine wp2_cond fun X Y hX hY => ?_
           | (refine condK_of (fun c => ?_) (fun c => ?_) <;> (try simp [-List.length_eq_zero_iff] at c))
           | simp (maxSteps := 4000000) (disch := omega) [w0, w1, w2, w7, w9, hl2, mk1, makes])
            generalize hst : St.put _ (some 42) _ = st7
            have q7 : Keep hF s st7 := by
              rw [← hst]
              (repeat' first | exact q6 | exact q6 _ | refine Keep.put ?_ _ _ | refine Keep.setOb ?_ (by first | rfl | simp) _ | refine Keep.kill hc ?_ (by first | rfl | simp) | refine Keep.ren hc ?_ (by first | rfl | simp) | refine Keep.ren1 hc ?_ (by first | rfl | simp) | refine Keep.kill1 hc ?_ (by first | rfl | simp))
            have p7 : PS st7 l3 n3 := by
              rw [← hst]
              exact ⟨by simp [p6.v], by simp [p6.r], p6.le⟩
            have u : st7.tm 0 = pIfc ∧ st7.tm 1 = .t (.v (.int .i64 0)) ∧ st7.tm 2 = .t (.v (.int .i64 n)) ∧ st7.tm 7 = .t (.v (.int .i64 i)) ∧ st7.tm 9 = .t (.v (.int .i64 j)) ∧ st7.tm 40 = pIfc ∧ st7.tm 41 = .t (.v (.int .i64 i)) ∧ st7.tm 42 = .t (.v (.int .i64 j)) := by
              rw [← hst]
              simp [w0, w1, w2, w7, w9]
            obtain ⟨u0, u1, u2, u7, u9, u40, u41, u42⟩ := u
            clear hst
            refine callP_val [0, 1, 2, 7, 9, 40, 41, 42] ⟨Try.f226, by kernel_rfl, by kernel_rfl, rfl⟩ (by kernel_rfl) (by decide) u40 (vs := [.t (.v (.int .i64 i)), .t (.v (.int .i64 j))]) (by simp [u41, u42]) (swap_p (by omega) (by omega) (by omega)) hc q7 p7 (by simp [u0, u1, u2, u7, u9, u40, u41, u42, AV.free, pIfc_free]) ?_
            rintro s8 v l4 n4 q8 p8 tm8 ⟨rfl, rfl⟩
            have x0 : s8.tm 0 = pIfc := by rw [tm8 0 (by decide), u0]
            have x1 : s8.tm 1 = .t (.v (.int .i64 0)) := by rw [tm8 1 (by decide), u1]
            have x2 : s8.tm 2 = .t (.v (.int .i64 n)) := by rw [tm8 2 (by decide), u2]
            have x9 : s8.tm 9 = .t (.v (.int .i64 j)) := by rw [tm8 9 (by decide), u9]
            clear u0 u1 u2 u7 u9 u40 u41 u42 q7 p7 tm8
            repeat' (first
             | refine M_cons fun K hK => ?_
             | (refine hK _ ?_; clear hK K)
             | refine wp2_region ?_
             | simp (maxSteps := 4000000) (disch := omega) [x0, x1, x2, x9, mk1, makes])
            refine hL (n - j) _ (by omega) ⟨swapL l3 i j, j, ?_, ⟨by simp [p8.v], by simp [p8.r], p8.le⟩, by simp [x0], by simp [x1], by simp [x2], by simp, rfl, e1.swap (by omega) (by omega) (by omega), hd.step (by omega) (by omega) (by omega) (by omega) hl2 sm, by omega⟩
            (repeat' first | exact q8 | exact q8 _ | refine Keep.put ?_ _ _ | refine Keep.setOb ?_ (by first | rfl | simp) _ | refine Keep.kill hc ?_ (by first | rfl | simp) | refine Keep.ren hc ?_ (by first | rfl | simp) | refine Keep.ren1 hc ?_ (by first | rfl | simp) | refine Keep.kill1 hc ?_ (by first | rfl | simp))
          · repeat' (first
           | refine M_cons fun K hK => ?_
           | (refine hK _ ?_; clear hK K)
           | (refine hX _ ?_; clear hX hY X Y)
           | refine wp2_cond fun X Y hX hY => ?_
           | (refine condK_of (fun c => ?_) (fun c => ?_) <;> (try simp [-List.length_eq_zero_iff] at c))
           | simp (maxSteps := 4000000) (disch := omega) [w0, w1, w2, w7, w9, hl2, mk1, makes])
            refine hJ _ l3 i ?_ ⟨by simp [p6.v], by simp [p6.r], p6.le⟩ (by simp [w1]) (by simp [w7]) e1 (hd.stop fun k k0 k1 k2 => (not_Lt.1 hl2).trans (sm k k0 k1 k2))
            (repeat' first | exact q6 | exact q6 _ | refine Keep.put ?_ _ _ | refine Keep.setOb ?_ (by first | rfl | simp) _ | refine Keep.kill hc ?_ (by first | rfl | simp) | refine Keep.ren hc ?_ (by first | rfl | simp) | refine Keep.ren1 hc ?_ (by first | rfl | simp) | refine Keep.kill1 hc ?_ (by first | rfl | simp))
      · repeat' (first
       | refine wp2_seq fun K hK => ?_
       | refine M_cons fun K hK => ?_
       | (refine hK _ ?_; clear hK K)
       | (refine hY _ ?_; clear hX hY X Y)
       | refine wp2_block ?_
       | refine wp2_inl (mk := [38]) 3 rfl ?_
       | refine wp2_region ?_
       | refine wp2_cond fun X Y hX hY => ?_
       | (refine condK_of (fun c => ?_) (fun c => ?_) <;> (try simp [-List.length_eq_zero_iff] at c))
       | simp (maxSteps := 4000000) (disch := omega) [s10, s11, s12, s17, h1, h1', h2, mk1, makes])
        all_goals first | omega | skip
        have e8 : (2 * (i : Int) + 1) = ((2 * i + 1 : Nat) : Int) := by omega
        rw [e8]
        generalize hj1 : 2 * i + 1 = j at *
        generalize hst : St.put _ (some 37) _ = st5
        have q5 : Keep hF s st5 := by
          rw [← hst]
          (repeat' first | exact q1 | exact q1 _ | refine Keep.put ?_ _ _ | refine Keep.setOb ?_ (by first | rfl | simp) _ | refine Keep.kill hc ?_ (by first | rfl | simp) | refine Keep.ren hc ?_ (by first | rfl | simp) | refine Keep.ren1 hc ?_ (by first | rfl | simp) | refine Keep.kill1 hc ?_ (by first | rfl | simp))
        have p5 : PS st5 l' N := by
          rw [← hst]
          exact ⟨by simp [p1.v], by simp [p1.r], p1.le⟩
        have u : st5.tm 0 = pIfc ∧ st5.tm 1 = .t (.v (.int .i64 0)) ∧ st5.tm 2 = .t (.v (.int .i64 n)) ∧ st5.tm 7 = .t (.v (.int .i64 i)) ∧ st5.tm 9 = .t (.v (.int .i64 j)) ∧ st5.tm 35 = pIfc ∧ st5.tm 36 = .t (.v (.int .i64 j)) ∧ st5.tm 37 = .t (.v (.int .i64 i)) := by
          rw [← hst]
          simp [s10, s11, s12, s17]
        obtain ⟨u0, u1, u2, u7, u9, u35, u36, u37⟩ := u
        clear hst
        have sm : ∀ k : Nat, 0 < k → k < n → (k - 1) / 2 = i → Le (nth l' j) (nth l' k) := fun k k0 k1 k2 => by
          obtain rfl : k = j := by omega
          exact Le.refl _
        refine callP_val [0, 1, 2, 7, 9, 35, 36, 37] ⟨Try.f223, by kernel_rfl, by kernel_rfl, rfl⟩ (by kernel_rfl) (by decide) u35 (vs := [.t (.v (.int .i64 j)), .t (.v (.int .i64 i))]) (by simp [u36, u37]) (less_p (by omega) (by omega) (by omega)) hc q5 p5 (by simp [u0, u1, u2, u7, u9, u35, u36, u37, AV.free, pIfc_free]) ?_
        rintro s6 v l3 n3 q6 p6 tm6 ⟨rfl, rfl, rfl⟩
        have w0 : s6.tm 0 = pIfc := by rw [tm6 0 (by decide), u0]
        have w1 : s6.tm 1 = .t (.v (.int .i64 0)) := by rw [tm6 1 (by decide), u1]
        have w2 : s6.tm 2 = .t (.v (.int .i64 n)) := by rw [tm6 2 (by decide), u2]
        have w7 : s6.tm 7 = .t (.v (.int .i64 i)) := by rw [tm6 7 (by decide), u7]
        have w9 : s6.tm 9 = .t (.v (.int .i64 j)) := by rw [tm6 9 (by decide), u9]
        clear u0 u1 u2 u7 u9 u35 u36 u37 q5 p5 tm6
        by_cases hl2 : Lt (nth l3 j) (nth l3 i)
        · repeat' (first
         | refine wp2_seq fun K hK => ?_
         | refine M_cons fun K hK => ?_
         | (refine hK _ ?_; clear hK K)
         | (refine hY _ ?_; clear hX hY X Y)
         | refine wp2_inl (mk := [43]) 3 rfl ?_
         | refine wp2_cond fun X Y hX hY => ?_
         | (refine condK_of (fun c => ?_) (fun c => ?_) <;> (try simp [-List.length_eq_zero_iff] at c))
         | simp (maxSteps := 4000000) (disch := omega) [w0, w1, w2, w7, w9, hl2, mk1, makes])
          generalize hst : St.put _ (some 42) _ = st7
          have q7 : Keep hF s st7 := by
            rw [← hst]
            (repeat' first | exact q6 | exact q6 _ | refine Keep.put ?_ _ _ | refine Keep.setOb ?_ (by first | rfl | simp) _ | refine Keep.kill hc ?_ (by first | rfl | simp) | refine Keep.ren hc ?_ (by first | rfl | simp) | refine Keep.ren1 hc ?_ (by first | rfl | simp) | refine Keep.kill1 hc ?_ (by first | rfl | simp))
          have p7 : PS st7 l3 n3 := by
            rw [← hst]
            exact ⟨by simp [p6.v], by simp [p6.r], p6.le⟩
          have u : st7.tm 0 = pIfc ∧ st7.tm 1 = .t (.v (.int .i64 0)) ∧ st7.tm 2 = .t (.v (.int .i64 n)) ∧ st7.tm 7 = .t (.v (.int .i64 i)) ∧ st7.tm 9 = .t (.v (.int .i64 j)) ∧ st7.tm 40 = pIfc ∧ st7.tm 41 = .t (.v (.int .i64 i)) ∧ st7.tm 42 = .t (.v (.int .i64 j)) := by
            rw [← hst]
            simp [w0, w1, w2, w7, w9]
          obtain ⟨u0, u1, u2, u7, u9, u40, u41, u42⟩ := u
          clear hst
          refine callP_val [0, 1, 2, 7, 9, 40, 41, 42] ⟨Try.f226, by kernel_rfl, by kernel_rfl, rfl⟩ (by kernel_rfl) (by decide) u40 (vs := [.t (.v (.int .i64 i)), .t (.v (.int .i64 j))]) (by simp [u41, u42]) (swap_p (by omega) (by omega) (by omega)) hc q7 p7 (by simp [u0, u1, u2, u7, u9, u40, u41, u42, AV.free, pIfc_free]) ?_
          rintro s8 v l4 n4 q8 p8 tm8 ⟨rfl, rfl⟩
          have x0 : s8.tm 0 = pIfc := by rw [tm8 0 (by decide), u0]
          have x1 : s8.tm 1 = .t (.v (.int .i64 0)) := by rw [tm8 1 (by decide), u1]
          have x2 : s8.tm 2 = .t (.v (.int .i64 n)) := by rw [tm8 2 (by decide), u2]
          have x9 : s8.tm 9 = .t (.v (.int .i64 j)) := by rw [tm8 9 (by decide), u9]
          clear u0 u1 u2 u7 u9 u40 u41 u42 q7 p7 tm8
          repeat' (first
           | refine M_cons fun K hK => ?_
           | (refine hK _ ?_; clear hK K)
           | refine wp2_region ?_
           | simp (maxSteps := 4000000) (disch := omega) [x0, x1, x2, x9, mk1, makes])
          refine hL (n - j) _ (by omega) ⟨swapL l3 i j, j, ?_, ⟨by simp [p8.v], by simp [p8.r], p8.le⟩, by simp [x0], by simp [x1], by simp [x2], by simp, rfl, e1.swap (by omega) (by omega) (by omega), hd.step (by omega) (by omega) (by omega) (by omega) hl2 sm, by omega⟩
          (repeat' first | exact q8 | exact q8 _ | refine Keep.put ?_ _ _ | refine Keep.setOb ?_ (by first | rfl | simp) _ | refine Keep.kill hc ?_ (by first | rfl | simp) | refine Keep.ren hc ?_ (by first | rfl | simp) | refine Keep.ren1 hc ?_ (by first | rfl | simp) | refine Keep.kill1 hc ?_ (by first | rfl | simp))
        · repeat' (first
         | refine M_cons fun K hK => ?_
         | (refine hK _ ?_; clear hK K)
         | (refine hX _ ?_; clear hX hY X Y)
         | refine wp2_cond fun X Y hX hY => ?_
         | (refine condK_of (fun c => ?_) (fun c => ?_) <;> (try simp [-List.length_eq_zero_iff] at c))
         | simp (maxSteps := 4000000) (disch := omega) [w0, w1, w2, w7, w9, hl2, mk1, makes])
          refine hJ _ l3 i ?_ ⟨by simp [p6.v], by simp [p6.r], p6.le⟩ (by simp [w1]) (by simp [w7]) e1 (hd.stop fun k k0 k1 k2 => (not_Lt.1 hl2).trans (sm k k0 k1 k2))
          (repeat' first | exact q6 | exact q6 _ | refine Keep.put ?_ _ _ | refine Keep.setOb ?_ (by first | rfl | simp) _ | refine Keep.kill hc ?_ (by first | rfl | simp) | refine Keep.ren hc ?_ (by first | rfl | simp) | refine Keep.ren1 hc ?_ (by first | rfl | simp) | refine Keep.kill1 hc ?_ (by first | rfl | simp))
end Cal

/- A heap in line: heap.Push, heap.Pop. -/
set_option linter.unusedSimpArgs false
set_option linter.unusedVariables false
namespace Cal
open Go Go.Proofs
set_option maxRecDepth 100000
theorem callP_fun {d : Option Nat} {f : FuncId} {xs : Array Operand} {ts' : Array TypeId} {vs : List AV} {s st : St} {l : List Rc} {n : Nat} {Post : AV → List Rc → Nat → Prop} {K : St → Prop} (ts : List Nat) (hf : enters Try.prog f)
    (hvs : xs.toList.map (st.only ts fun id => calm hF id ∨ ownP id).ev = vs) (h : InlP f vs l n Post) (hc : s.Calm hE hF) (q : Keep hF s st) (ps : PS st l n)
    (h1 : ∀ t ∈ ts, (st.tm t).free fun id => ¬ calm hE id) (hK : ∀ s3 v l' n', Keep hF s s3 → PS s3 l' n' → (∀ t ∈ ts, s3.tm t = st.tm t) → Post v l' n' → K (s3.put d v)) : CallI Try.prog d (.call ⟨.value (.func f), xs, ts'⟩) st K := by
  subst hvs
  exact callI_pile (ts := ts) (entersAt_call hf) h hc q ps h1 hK
theorem Heap.swap0 {l : List Rc} {n : Nat} (h : Heap l (n + 1)) (hn : n < l.length) : HeapDn (swapL l 0 n) n 0 := by
  refine ⟨fun k k0 k1 k2 => ?_, fun h0 => by omega⟩
  rw [swapL_at (by omega) (by omega), swapL_at (by omega) (by omega), if_neg (by omega), if_neg k2, if_neg (by omega), if_neg (by omega)]
  exact h k k0 (by omega)
theorem take_one {l : List Rc} {n : Nat} (hn : n < l.length) : l.take (n + 1) = l.take n ++ [nth l n] := by
  rw [List.take_add_one, List.getElem?_eq_getElem hn, nth_get hn]
  rfl
/-- The code of container/heap.Push. -/
def k149 : Code1 :=
 (.seq
 (.region [6] false ([]) [
 ⟨some 4,Op.move (Operand.tmp 0),none⟩,
 ⟨some 5,Op.move (Operand.tmp 1),none⟩,
 ⟨some 6,Op.call {callee:=Callee.invoke (Operand.tmp 4) "Push",args:=#[Operand.tmp 5],argTypes:=#[20]},none⟩])
 (.region [9,11] false ([]) [
 ⟨some 7,Op.move (Operand.tmp 0),none⟩,
 ⟨some 8,Op.move (Operand.tmp 0),none⟩,
 ⟨some 9,Op.call {callee:=Callee.invoke (Operand.tmp 8) "Len",args:=#[],argTypes:=#[]},none⟩,
 ⟨some 10,Op.binOp BinOp.sub 3 (Operand.tmp 9) (Operand.const (Value.int IntKind.i64 1)) 3,none⟩,
 ⟨some 11,Op.call {callee:=Callee.value (Operand.func 171),args:=#[Operand.tmp 7,Operand.tmp 10],argTypes:=#[234,3]},none⟩]))
set_option maxHeartbeats 0 in
theorem hpush_p {l : List Rc} {n : Nat} (hN : n ≤ l.length) (hb : n < 1000000) (hH : Heap l n) (x : Rc) : InlP 149 [pIfc, .ifc 206 (.agg (cellR x))] l n fun v l' n' => n' = n + 1 ∧ l'.length = n + 1 ∧ Heap l' (n + 1) ∧ ∀ y, y ∈ l' ↔ y ∈ l.take n ∨ y = x := by
  intro s hc ps R hR
  refine inl_of_wp2 (fn := Try.f149) (k := k149) (fun _ => []) mixed (by kernel_rfl) rfl (by kernel_rfl) (by kernel_rfl) rfl (by simp [Try.f149]) ?_
  generalize hst : s.body [pIfc, .ifc 206 (.agg (cellR x))] = st0
  have q0 : ∀ F, Keep F s st0 := fun F => by rw [← hst]; exact (Keep.refl F s).body _
  have hob : st0.ob = s.ob := by rw [← hst]; rfl
  have t0 : st0.tm 0 = pIfc := by rw [← hst]; rfl
  have t1 : st0.tm 1 = .ifc 206 (.agg (cellR x)) := by rw [← hst]; rfl
  clear hst
  unfold k149
  repeat' (first
   | refine wp2_seq fun K hK => ?_
   | refine M_cons fun K hK => ?_
   | (refine hK _ ?_; clear hK K)
   | refine wp2_inl (mk := [6]) 2 rfl ?_
   | simp (maxSteps := 4000000) (disch := omega) [t0, t1, mk1, makes, cellR])
  generalize hst : St.put _ (some 5) _ = st4
  have q4 : Keep hF s st4 := by
    rw [← hst]
    (repeat' first | exact q0 | exact q0 _ | refine Keep.put ?_ _ _ | refine Keep.setOb ?_ (by first | rfl | simp) _ | refine Keep.kill hc ?_ (by first | rfl | simp) | refine Keep.ren hc ?_ (by first | rfl | simp) | refine Keep.ren1 hc ?_ (by first | rfl | simp) | refine Keep.kill1 hc ?_ (by first | rfl | simp))
  have p4 : PS st4 l n := by
    rw [← hst]
    exact ⟨by simp [hob, ps.v], by simp [hob, ps.r], ps.le⟩
  have u : st4.tm 0 = pIfc ∧ st4.tm 4 = pIfc ∧ st4.tm 5 = .ifc 206 (.agg (cellR x)) := by
    rw [← hst]
    simp [t0, t1, cellR]
  obtain ⟨u0, u4, u5⟩ := u
  clear hst
  refine callP_ptr [0, 4, 5] ⟨Try.f225, by kernel_rfl, by kernel_rfl, rfl⟩ (by kernel_rfl) (by decide) u4 (vs := [.ifc 206 (.agg (cellR x))]) (by simp [u5]) (push_p hN (by omega) x) hc q4 p4 (by simp [u0, u4, u5, AV.free, AV.frees, pIfc_free, cellR]) ?_
  rintro s3 v l2 n2 q3 p3 tm3 ⟨rfl, rfl⟩
  have v0 : s3.tm 0 = pIfc := by rw [tm3 0 (by decide), u0]
  clear u0 u4 u5 q4 p4 tm3
  repeat' (first
   | refine M_cons fun K hK => ?_
   | (refine hK _ ?_; clear hK K)
   | refine wp2_inlX (mk := [9, 11]) 2 rfl ?_
   | simp (maxSteps := 4000000) (disch := omega) [v0, mk1, makes])
  generalize hst : St.put _ (some 8) _ = st5
  have q5 : Keep hF s st5 := by
    rw [← hst]
    (repeat' first | exact q3 | exact q3 _ | refine Keep.put ?_ _ _ | refine Keep.setOb ?_ (by first | rfl | simp) _ | refine Keep.kill hc ?_ (by first | rfl | simp) | refine Keep.ren hc ?_ (by first | rfl | simp) | refine Keep.ren1 hc ?_ (by first | rfl | simp) | refine Keep.kill1 hc ?_ (by first | rfl | simp))
  have p5 : PS st5 (l.take n ++ [x]) (n + 1) := by
    rw [← hst]
    exact ⟨by simp [p3.v], by simp [p3.r], p3.le⟩
  have u : st5.tm 7 = pIfc ∧ st5.tm 8 = pIfc := by
    rw [← hst]
    simp [v0]
  obtain ⟨u7, u8⟩ := u
  clear hst q3 p3
  refine callP_val [7, 8] ⟨Try.f147, by kernel_rfl, by kernel_rfl, rfl⟩ (by kernel_rfl) (by decide) u8 (vs := []) (by simp) (len_p _ _) hc q5 p5 (by simp [u7, u8, AV.free, pIfc_free]) ?_
  rintro s6 v l3 n3 q6 p6 tm6 ⟨rfl, rfl, rfl⟩
  have v7 : s6.tm 7 = pIfc := by rw [tm6 7 (by decide), u7]
  clear u7 u8 q5 p5 tm6
  refine wpX_inl 1 rfl ?_
  repeat' (first
   | refine M_cons fun K hK => ?_
   | (refine hK _ ?_; clear hK K)
   | simp (maxSteps := 4000000) (disch := omega) [v7, mk1, makes])
  generalize hst : St.put _ (some 10) _ = st7
  have q7 : Keep hF s st7 := by
    rw [← hst]
    (repeat' first | exact q6 | exact q6 _ | refine Keep.put ?_ _ _ | refine Keep.setOb ?_ (by first | rfl | simp) _ | refine Keep.kill hc ?_ (by first | rfl | simp) | refine Keep.ren hc ?_ (by first | rfl | simp) | refine Keep.ren1 hc ?_ (by first | rfl | simp) | refine Keep.kill1 hc ?_ (by first | rfl | simp))
  have p7 : PS st7 (l.take n ++ [x]) (n + 1) := by
    rw [← hst]
    exact ⟨by simp [p6.v], by simp [p6.r], p6.le⟩
  have u : st7.tm 7 = pIfc ∧ st7.tm 10 = .t (.v (.int .i64 n)) := by
    rw [← hst]
    simp [v7]
  obtain ⟨u7, u10⟩ := u
  clear hst q6 p6
  have hl : (l.take n).length = n := by rw [List.length_take]; omega
  have hU := (hH.cut hN).snoc x
  rw [hl] at hU
  refine callP_fun [7, 10] ⟨Try.f171, by kernel_rfl, by kernel_rfl, rfl⟩ (vs := [pIfc, .t (.v (.int .i64 n))]) (by simp [u7, u10]) (up_p (by simp [hl]) (by omega) (by omega) hU) hc q7 p7 (by simp [u7, u10, AV.free, pIfc_free]) ?_
  rintro s8 v l4 n4 q8 p8 tm8 ⟨rfl, rfl, e1, e2, e3⟩
  refine ⟨.tup [], by simp [resultA], hR _ _ l4 (n + 1) (Keep.bare ?_) ⟨by simp [p8.v], by simp [p8.r], p8.le⟩ ⟨rfl, e1, e2, fun y => by rw [e3 y]; simp⟩⟩
  (repeat' first | exact q8 | exact q8 _ | refine Keep.put ?_ _ _ | refine Keep.setOb ?_ (by first | rfl | simp) _ | refine Keep.kill hc ?_ (by first | rfl | simp) | refine Keep.ren hc ?_ (by first | rfl | simp) | refine Keep.ren1 hc ?_ (by first | rfl | simp) | refine Keep.kill1 hc ?_ (by first | rfl | simp))
/-- The code of container/heap.Pop. -/
def k148 : Code1 :=
 (.seq
 (.region [] false ([]) [
 ⟨some 2,Op.assign (Operand.const Value.nilIface),none⟩])
 (.seq
 (.region [5] false ([]) [
 ⟨some 4,Op.move (Operand.tmp 0),none⟩,
 ⟨some 5,Op.call {callee:=Callee.invoke (Operand.tmp 4) "Len",args:=#[],argTypes:=#[]},none⟩,
 ⟨some 6,Op.binOp BinOp.sub 3 (Operand.tmp 5) (Operand.const (Value.int IntKind.i64 1)) 3,none⟩,
 ⟨some 3,Op.assign (Operand.tmp 6),none⟩])
 (.seq
 (.region [9] false ([]) [
 ⟨some 7,Op.move (Operand.tmp 0),none⟩,
 ⟨some 8,Op.move (Operand.tmp 3),none⟩,
 ⟨some 9,Op.call {callee:=Callee.invoke (Operand.tmp 7) "Swap",args:=#[Operand.const (Value.int IntKind.i64 0),Operand.tmp 8],argTypes:=#[3,3]},none⟩])
 (.seq
 (.region [12] false ([]) [
 ⟨some 10,Op.move (Operand.tmp 0),none⟩,
 ⟨some 11,Op.move (Operand.tmp 3),none⟩,
 ⟨some 12,Op.call {callee:=Callee.value (Operand.func 170),args:=#[Operand.tmp 10,Operand.const (Value.int IntKind.i64 0),Operand.tmp 11],argTypes:=#[234,3,3]},none⟩])
 (.seq
 (.region [14] false ([]) [
 ⟨some 13,Op.move (Operand.tmp 0),none⟩,
 ⟨some 14,Op.call {callee:=Callee.invoke (Operand.tmp 13) "Pop",args:=#[],argTypes:=#[]},none⟩,
 ⟨some 2,Op.assign (Operand.tmp 14),none⟩])
 .ret)))))
set_option maxHeartbeats 0 in
theorem hpop_p {l : List Rc} {n : Nat} (hN : n + 1 ≤ l.length) (hb : n < 1000000) (hH : Heap l (n + 1)) : InlP 148 [pIfc] l (n + 1) fun v l' n' => v = .ifc 206 (.agg (cellR (nth l (0 : Nat)))) ∧ n' = n ∧ l'.length = l.length ∧ Heap l' n ∧ (∀ y, y ∈ l'.take n → y ∈ l.take (n + 1)) ∧ ∀ y, y ∈ l.take (n + 1) → y = nth l (0 : Nat) ∨ y ∈ l'.take n := by
  intro s hc ps R hR
  refine inl_of_wp2 (fn := Try.f148) (k := k148) (fun _ => []) mixed (by kernel_rfl) rfl (by kernel_rfl) (by kernel_rfl) rfl (by simp [Try.f148]) ?_
  generalize hst : s.body [pIfc] = st0
  have q0 : ∀ F, Keep F s st0 := fun F => by rw [← hst]; exact (Keep.refl F s).body _
  have hob : st0.ob = s.ob := by rw [← hst]; rfl
  have t0 : st0.tm 0 = pIfc := by rw [← hst]; rfl
  clear hst
  unfold k148
  repeat' (first
   | refine wp2_seq fun K hK => ?_
   | refine M_cons fun K hK => ?_
   | (refine hK _ ?_; clear hK K)
   | refine wp2_inl (mk := [5]) 1 rfl ?_
   | refine wp2_region ?_
   | simp (maxSteps := 4000000) (disch := omega) [t0, mk1, makes])
  generalize hst : St.put _ (some 4) _ = st4
  have q4 : Keep hF s st4 := by
    rw [← hst]
    (repeat' first | exact q0 | exact q0 _ | refine Keep.put ?_ _ _ | refine Keep.setOb ?_ (by first | rfl | simp) _ | refine Keep.kill hc ?_ (by first | rfl | simp) | refine Keep.ren hc ?_ (by first | rfl | simp) | refine Keep.ren1 hc ?_ (by first | rfl | simp) | refine Keep.kill1 hc ?_ (by first | rfl | simp))
  have p4 : PS st4 l (n + 1) := by
    rw [← hst]
    exact ⟨by simp [hob, ps.v], by simp [hob, ps.r], ps.le⟩
  have u : st4.tm 0 = pIfc ∧ st4.tm 4 = pIfc := by
    rw [← hst]
    simp [t0]
  obtain ⟨u0, u4⟩ := u
  clear hst
  refine callP_val [0, 4] ⟨Try.f147, by kernel_rfl, by kernel_rfl, rfl⟩ (by kernel_rfl) (by decide) u4 (vs := []) (by simp) (len_p _ _) hc q4 p4 (by simp [u0, u4, AV.free, pIfc_free]) ?_
  rintro s3 v l3 n3 q3 p3 tm3 ⟨rfl, rfl, rfl⟩
  have v0 : s3.tm 0 = pIfc := by rw [tm3 0 (by decide), u0]
  clear u0 u4 q4 p4 tm3
  repeat' (first
   | refine wp2_seq fun K hK => ?_
   | refine M_cons fun K hK => ?_
   | (refine hK _ ?_; clear hK K)
   | refine wp2_inl (mk := [9]) 2 rfl ?_
   | simp (maxSteps := 4000000) (disch := omega) [v0, mk1, makes])
  generalize hst : St.put _ (some 8) _ = st5
  have q5 : Keep hF s st5 := by
    rw [← hst]
    (repeat' first | exact q3 | exact q3 _ | refine Keep.put ?_ _ _ | refine Keep.setOb ?_ (by first | rfl | simp) _ | refine Keep.kill hc ?_ (by first | rfl | simp) | refine Keep.ren hc ?_ (by first | rfl | simp) | refine Keep.ren1 hc ?_ (by first | rfl | simp) | refine Keep.kill1 hc ?_ (by first | rfl | simp))
  have p5 : PS st5 l3 (n + 1) := by
    rw [← hst]
    exact ⟨by simp [p3.v], by simp [p3.r], p3.le⟩
  have u : st5.tm 0 = pIfc ∧ st5.tm 3 = .t (.v (.int .i64 n)) ∧ st5.tm 7 = pIfc ∧ st5.tm 8 = .t (.v (.int .i64 n)) := by
    rw [← hst]
    simp [v0]
  obtain ⟨u0, u3, u7, u8⟩ := u
  clear hst q3 p3
  refine callP_val [0, 3, 7, 8] ⟨Try.f226, by kernel_rfl, by kernel_rfl, rfl⟩ (by kernel_rfl) (by decide) u7 (vs := [.t (.v (.int .i64 (0 : Nat))), .t (.v (.int .i64 n))]) (by simp [u8]) (swap_p (by omega) (by omega) (by omega)) hc q5 p5 (by simp [u0, u3, u7, u8, AV.free, pIfc_free]) ?_
  rintro s6 v l4 n4 q6 p6 tm6 ⟨rfl, rfl⟩
  have v0 : s6.tm 0 = pIfc := by rw [tm6 0 (by decide), u0]
  have v3 : s6.tm 3 = .t (.v (.int .i64 n)) := by rw [tm6 3 (by decide), u3]
  clear u0 u3 u7 u8 q5 p5 tm6
  repeat' (first
   | refine wp2_seq fun K hK => ?_
   | refine M_cons fun K hK => ?_
   | (refine hK _ ?_; clear hK K)
   | refine wp2_inl (mk := [12]) 2 rfl ?_
   | simp (maxSteps := 4000000) (disch := omega) [v0, v3, mk1, makes])
  generalize hst : St.put _ (some 11) _ = st7
  have q7 : Keep hF s st7 := by
    rw [← hst]
    (repeat' first | exact q6 | exact q6 _ | refine Keep.put ?_ _ _ | refine Keep.setOb ?_ (by first | rfl | simp) _ | refine Keep.kill hc ?_ (by first | rfl | simp) | refine Keep.ren hc ?_ (by first | rfl | simp) | refine Keep.ren1 hc ?_ (by first | rfl | simp) | refine Keep.kill1 hc ?_ (by first | rfl | simp))
  have p7 : PS st7 (swapL l3 0 n) (n + 1) := by
    rw [← hst]
    exact ⟨by simp [p6.v], by simp [p6.r], p6.le⟩
  have u : st7.tm 0 = pIfc ∧ st7.tm 10 = pIfc ∧ st7.tm 11 = .t (.v (.int .i64 n)) := by
    rw [← hst]
    simp [v0, v3]
  obtain ⟨u0, u10, u11⟩ := u
  clear hst q6 p6
  refine callP_fun [0, 10, 11] ⟨Try.f170, by kernel_rfl, by kernel_rfl, rfl⟩ (vs := [pIfc, .t (.v (.int .i64 0)), .t (.v (.int .i64 n))]) (by simp [u10, u11]) (down_p (by rw [swapL_len]; exact hN) (by omega) (by omega) (hH.swap0 (by omega))) hc q7 p7 (by simp [u0, u10, u11, AV.free, pIfc_free]) ?_
  rintro s8 v l5 n5 q8 p8 tm8 ⟨rfl, dn, e2⟩
  have el := dn.len
  rw [swapL_len] at el
  have v0 : s8.tm 0 = pIfc := by rw [tm8 0 (by decide), u0]
  clear u0 u10 u11 q7 p7 tm8
  repeat' (first
   | refine wp2_seq fun K hK => ?_
   | refine M_cons fun K hK => ?_
   | (refine hK _ ?_; clear hK K)
   | refine wp2_inl (mk := [14]) 1 rfl ?_
   | simp (maxSteps := 4000000) (disch := omega) [v0, mk1, makes])
  generalize hst : St.put _ (some 13) _ = st9
  have q9 : Keep hF s st9 := by
    rw [← hst]
    (repeat' first | exact q8 | exact q8 _ | refine Keep.put ?_ _ _ | refine Keep.setOb ?_ (by first | rfl | simp) _ | refine Keep.kill hc ?_ (by first | rfl | simp) | refine Keep.ren hc ?_ (by first | rfl | simp) | refine Keep.ren1 hc ?_ (by first | rfl | simp) | refine Keep.kill1 hc ?_ (by first | rfl | simp))
  have p9 : PS st9 l5 (n + 1) := by
    rw [← hst]
    exact ⟨by simp [p8.v], by simp [p8.r], p8.le⟩
  have u13 : st9.tm 13 = pIfc := by
    rw [← hst]
    simp
  clear hst q8 p8
  refine callP_ptr [13] ⟨Try.f224, by kernel_rfl, by kernel_rfl, rfl⟩ (by kernel_rfl) (by decide) u13 (vs := []) (by simp) (pop_p (by omega) (by omega)) hc q9 p9 (by simp [u13, pIfc_free]) ?_
  rintro s10 v l6 n6 q10 p10 tm10 ⟨rfl, rfl, rfl⟩
  have en : nth l6 (n6 : Int) = nth l3 ((0 : Nat) : Int) := by
    rw [dn.out n6 (Nat.le_refl _), swapL_at (by omega) (by omega), if_pos rfl]
  rw [en]
  obtain ⟨_, so⟩ := swapL_out (l := l3) (i := 0) (j := n6) (n := n6 + 1) (by omega) (by omega) hN
  have t1 := take_one (l := swapL l3 0 n6) (n := n6) (by rw [swapL_len]; omega)
  have t2 : nth (swapL l3 0 n6) (n6 : Int) = nth l3 ((0 : Nat) : Int) := by rw [swapL_at (by omega) (by omega), if_pos rfl]
  rw [t1, t2] at so
  repeat' (first
   | refine M_cons fun K hK => ?_
   | (refine hK _ ?_; clear hK K)
   | simp (maxSteps := 4000000) (disch := omega) [mk1, makes, cellR])
  refine ⟨.ifc 206 (.agg (cellR (nth l3 ((0 : Nat) : Int)))), by simp [resultA, resA, cellR], hR _ _ l6 n6 (Keep.bare ?_) ⟨by simp [p10.v], by simp [p10.r], p10.le⟩ ⟨rfl, rfl, el, e2, fun y hy => ?_, fun y hy => ?_⟩⟩
  · (repeat' first | exact q10 | exact q10 _ | refine Keep.put ?_ _ _ | refine Keep.setOb ?_ (by first | rfl | simp) _ | refine Keep.kill hc ?_ (by first | rfl | simp) | refine Keep.ren hc ?_ (by first | rfl | simp) | refine Keep.ren1 hc ?_ (by first | rfl | simp) | refine Keep.kill1 hc ?_ (by first | rfl | simp))
  · rw [← so y]
    exact List.mem_append_left _ ((dn.mem y).1 hy)
  · rw [← so y] at hy
    rcases List.mem_append.1 hy with h | h
    · exact .inr ((dn.mem y).2 h)
    · exact .inl (by simpa using h)
end Cal

set_option linter.unusedSimpArgs false
set_option linter.unusedVariables false
namespace Cal
open Go Go.Proofs
set_option maxRecDepth 100000
/-- The arrows into the first n states. -/
def arrK (parent last : List Int) : Nat → List (MK × Int)
  | 0 => []
  | s + 1 => if s = 0 then [] else mset (arrK parent last s) (.p (rd parent s) (rd last s)) s
@[simp] theorem arrK_1 (parent last : List Int) : arrK parent last 1 = [] := rfl
end Cal

set_option linter.unusedSimpArgs false
set_option linter.unusedVariables false
namespace Cal
open Go Go.Proofs Auto AC
set_option maxRecDepth 100000
theorem rd_getD (l : List Int) (s : Nat) : rd l s = l.getD s 0 := by simp [rd]
/-- Edges, and what stands at the root. -/
structure Small (parent last : List Int) : Prop where
  p : ∀ s, 1 ≤ s → s < parent.length → 0 ≤ last.getD s 0 ∧ last.getD s 0 < 4000
  n : parent.length ≤ 2000
  p0 : rd parent 0 = -1
  l0 : rd last 0 = -1
/-- The link of a state, out of its parent's. -/
theorem Trie.next {ws : List (List Int)} {parent last : List Int} (T : Trie ws parent last) {r : List Int} (hF : FailsTo ws r ws.length) {s : Nat} (h1 : 1 ≤ s) (hs : s < ws.length) {t : Nat} (ht : t < ws.length) :
    (parent.getD s 0 = 0 → r.getD s 0 = 0) ∧ (parent.getD s 0 ≠ 0 → ∀ f : Nat, r.getD (parent.getD s 0).toNat 0 = f → ws.getD t [] = LS (isWord ws) (ws.getD f [] ++ [last.getD s 0]) → r.getD s 0 = t) := by
  obtain ⟨g, hg, hgs, hgw⟩ := hF s h1 hs
  have hw := T.word s h1 hs
  have hpar := T.par s h1 hs
  constructor
  · intro h0
    rw [hw, h0] at hgw
    have hr : ws.getD (0 : Int).toNat [] = [] := by show ws.getD 0 [] = []; rw [List.getD_eq_getElem?_getD, T.root]; rfl
    rw [hr] at hgw
    have : g = 0 := T.inj (by omega) T.pos (by rw [hgw]; show ([] : List Int) = ws.getD 0 []; exact hr.symm)
    rw [hg, this]
    rfl
  · intro h0 f hf htw
    obtain ⟨f', hf', hlt, hfw⟩ := hF (parent.getD s 0).toNat (by omega) (by omega)
    have : f = f' := by omega
    subst this
    have : ws.getD t [] = ws.getD g [] := by
      rw [htw, hgw, hfw, hw, ← LS_LS T.closed]
      obtain ⟨a, l, hal⟩ := List.exists_cons_of_ne_nil (T.ne_nil (s := (parent.getD s 0).toNat) (by omega) (by omega))
      rw [hal]; rfl
    rw [hg, T.inj ht (by omega) this]
theorem take_snoc {r : List Int} {k : Nat} (h : k < r.length) : r.take k ++ [rd r k] = r.take (k + 1) := by
  rw [List.take_add_one, rd_getD, List.getD_eq_getElem?_getD]
  congr 1
  rw [List.getElem?_eq_getElem h]
  rfl
end Cal

set_option linter.unusedSimpArgs false
set_option linter.unusedVariables false
namespace Cal
open Go Go.Proofs Auto AC
set_option maxRecDepth 100000
/-- The code of spec.l2Same. -/
def k146 : Code1 :=
 (.seq
 (.region [] false ([]) [
 ⟨some 4,Op.assign (Operand.const (Value.bool false)),none⟩])
 (.seq
 (.seq
 (.region [] false ([]) [
 ⟨some 6,Op.move (Operand.tmp 0),none⟩,
 ⟨some 7,Op.call {callee:=Callee.builtin Builtin.len,args:=#[Operand.tmp 6],argTypes:=#[22]},none⟩,
 ⟨some 8,Op.move (Operand.tmp 1),none⟩,
 ⟨some 9,Op.call {callee:=Callee.builtin Builtin.len,args:=#[Operand.tmp 8],argTypes:=#[22]},none⟩,
 ⟨some 10,Op.binOp BinOp.neq 3 (Operand.tmp 7) (Operand.tmp 9) 3,none⟩])
 (.cond (Operand.tmp 10)
 (.seq
 (.region [] false ([]) [
 ⟨some 4,Op.assign (Operand.const (Value.bool false)),none⟩])
 .ret)
 .skip))
 (.seq
 (.seq
 (.region [] false ([]) [
 ⟨some 5,Op.assign (Operand.const (Value.int IntKind.i64 0)),none⟩])
 (.block 0
 (.loop
 (.seq
 (.seq
 (.region [] false ([]) [
 ⟨some 11,Op.move (Operand.tmp 5),none⟩,
 ⟨some 12,Op.move (Operand.tmp 0),none⟩,
 ⟨some 13,Op.call {callee:=Callee.builtin Builtin.len,args:=#[Operand.tmp 12],argTypes:=#[22]},none⟩,
 ⟨some 14,Op.binOp BinOp.lss 3 (Operand.tmp 11) (Operand.tmp 13) 3,none⟩])
 (.cond (Operand.tmp 14)
 .skip
 (.exit 0)))
 (.seq
 (.block 1
 (.seq
 (.region [] true ([]) [
 ⟨some 17,Op.move (Operand.tmp 0),none⟩,
 ⟨some 18,Op.move (Operand.tmp 5),none⟩,
 ⟨some 19,Op.indexAddr 22 (Operand.tmp 17) (Operand.tmp 18),none⟩,
 ⟨some 20,Op.load 2 (Operand.tmp 19),none⟩,
 ⟨some 21,Op.move (Operand.tmp 1),none⟩,
 ⟨some 22,Op.move (Operand.tmp 5),none⟩,
 ⟨some 23,Op.indexAddr 22 (Operand.tmp 21) (Operand.tmp 22),none⟩,
 ⟨some 24,Op.load 2 (Operand.tmp 23),none⟩,
 ⟨some 25,Op.binOp BinOp.neq 2 (Operand.tmp 20) (Operand.tmp 24) 2,none⟩])
 (.cond (Operand.tmp 25)
 (.seq
 (.region [] false ([]) [
 ⟨some 4,Op.assign (Operand.const (Value.bool false)),none⟩])
 .ret)
 .skip)))
 (.region [] false ([]) [
 ⟨some 15,Op.move (Operand.tmp 5),none⟩,
 ⟨some 16,Op.binOp BinOp.add 3 (Operand.tmp 15) (Operand.const (Value.int IntKind.i64 1)) 3,none⟩,
 ⟨some 5,Op.assign (Operand.tmp 16),none⟩]))))))
 (.seq
 (.region [] false ([]) [
 ⟨some 4,Op.assign (Operand.const (Value.bool true)),none⟩])
 .ret))))
theorem same_c (a b : List Int) (ha : a.length ≤ 1048576) (hb : b.length ≤ 1048576) :
    CallsF Try.prog 146 [.val (ints a), .val (ints b)] (.t (.v (.bool (decide (a = b))))) [] := by
  refine callsF_of_wp1 (fn := Try.f146) (k := k146) (fun _ => []) mixed (by kernel_rfl) rfl (by kernel_rfl) (by kernel_rfl) (by kernel_rfl) rfl (by simp [Try.f146]) (by simp [Arg.like]) ?_
  generalize hst : St.enter [.val (ints a), .val (ints b)] = st0
  have t0 : st0.tm 0 = .t (ints a) := by rw [← hst]; rfl
  have t1 : st0.tm 1 = .t (ints b) := by rw [← hst]; rfl
  clear hst
  unfold k146
  repeat' (first
   | refine wp1_seq fun K hK => ?_
   | refine M_cons fun K hK => ?_
   | (refine hK _ ?_; clear hK K)
   | (refine hX _ ?_; clear hX hY X Y)
   | (refine hY _ ?_; clear hX hY X Y)
   | refine wp1_block ?_
   | refine wp1_region ?_
   | refine wp1_cond fun X Y hX hY => ?_
   | (refine condK_of (fun c => ?_) (fun c => ?_) <;> (try simp [-List.length_eq_zero_iff] at c))
   | simp (maxSteps := 4000000) (disch := omega) [t0, t1])
  · have : ¬ a = b := fun e => c (by rw [e])
    simp [Back, this]
  have hJ : a = b → ∀ s, K s := by
    rintro rfl s
    repeat' (first
     | refine wp1_seq fun K hK => ?_
     | refine M_cons fun K hK => ?_
     | (refine hK _ ?_; clear hK K)
     | refine wp1_region ?_
     | simp (maxSteps := 4000000) (disch := omega) [])
    all_goals try (simp [Back]; done)
  clear hK
  refine wp1_loop (fun n s => ∃ k : Nat, s.tm 0 = .t (ints a) ∧ s.tm 1 = .t (ints b) ∧ s.tm 5 = .t (.v (.int .i64 k)) ∧ k ≤ a.length ∧ n = a.length - k ∧ ∀ i < k, rd a i = rd b i) a.length ?_ ?_
  · exact ⟨0, by simp [t0, t1]⟩
  · rintro n s ⟨k, s0, s1, s5, hk, rfl, heq⟩ K' hK'
    repeat' (first
     | refine wp1_seq fun K hK => ?_
     | refine M_cons fun K hK => ?_
     | (refine hK _ ?_; clear hK K)
     | (refine hX _ ?_; clear hX hY X Y)
     | (refine hY _ ?_; clear hX hY X Y)
     | refine wp1_block ?_
     | refine wp1_region ?_
     | refine wp1_cond fun X Y hX hY => ?_
     | (refine condK_of (fun c => ?_) (fun c => ?_) <;> (try simp [-List.length_eq_zero_iff] at c))
     | simp (maxSteps := 4000000) (disch := omega) [s0, s1, s5])
    · have : ¬ a = b := fun e => c (by rw [e])
      simp [Back, this]
    · refine hK' (a.length - (k + 1)) _ (by omega) ⟨k + 1, ?_⟩
      simp [s0, s1, s5]
      exact ⟨by omega, below_succ heq c⟩
    · exact hJ (eq_of_rd (by omega) fun i hi => heq i (by omega)) _
/-! the order of words -/
theorem lex_first' : ∀ {a b : List Int} {j : Nat}, a.length = b.length → j < a.length → (∀ i < j, a.getD i 0 = b.getD i 0) → a.getD j 0 ≠ b.getD j 0 → Short.lex a b = decide (a.getD j 0 < b.getD j 0)
  | [], _, j, _, h, _, _ => by simp at h
  | _ :: _, [], _, h, _, _, _ => by simp at h
  | x :: a, y :: b, 0, _, _, _, hne => by
    simp at hne
    simp [Short.lex, hne]
  | x :: a, y :: b, j + 1, hl, hj, hall, hne => by
    have h0 := hall 0 (by omega)
    simp at h0
    have ih := lex_first' (a := a) (b := b) (j := j) (by simpa using hl) (by simpa using hj) (fun i hi => by simpa using hall (i + 1) (by omega)) (by simpa using hne)
    simp only [Short.lex, h0, if_true]
    rw [ih]
    simp
theorem lex_first {a b : List Int} (h : a.length = b.length) {j : Nat} (hj : j < a.length) (hall : ∀ i < j, rd a i = rd b i) (hne : rd a j ≠ rd b j) : Short.lex a b = decide (rd a j < rd b j) := by
  rw [rd_getD, rd_getD] at hne ⊢
  exact lex_first' h hj (fun i hi => by have := hall i hi; rwa [rd_getD, rd_getD] at this) hne
/-- The code of spec.l3Before. -/
def k145 : Code1 :=
 (.seq
 (.region [] false ([]) [
 ⟨some 4,Op.assign (Operand.const (Value.bool false)),none⟩])
 (.seq
 (.seq
 (.region [] false ([]) [
 ⟨some 6,Op.move (Operand.tmp 0),none⟩,
 ⟨some 7,Op.call {callee:=Callee.builtin Builtin.len,args:=#[Operand.tmp 6],argTypes:=#[22]},none⟩,
 ⟨some 8,Op.move (Operand.tmp 1),none⟩,
 ⟨some 9,Op.call {callee:=Callee.builtin Builtin.len,args:=#[Operand.tmp 8],argTypes:=#[22]},none⟩,
 ⟨some 10,Op.binOp BinOp.neq 3 (Operand.tmp 7) (Operand.tmp 9) 3,none⟩])
 (.cond (Operand.tmp 10)
 (.seq
 (.region [] false ([]) [
 ⟨some 11,Op.move (Operand.tmp 0),none⟩,
 ⟨some 12,Op.call {callee:=Callee.builtin Builtin.len,args:=#[Operand.tmp 11],argTypes:=#[22]},none⟩,
 ⟨some 13,Op.move (Operand.tmp 1),none⟩,
 ⟨some 14,Op.call {callee:=Callee.builtin Builtin.len,args:=#[Operand.tmp 13],argTypes:=#[22]},none⟩,
 ⟨some 15,Op.binOp BinOp.lss 3 (Operand.tmp 12) (Operand.tmp 14) 3,none⟩,
 ⟨some 4,Op.assign (Operand.tmp 15),none⟩])
 .ret)
 .skip))
 (.seq
 (.seq
 (.region [] false ([]) [
 ⟨some 5,Op.assign (Operand.const (Value.int IntKind.i64 0)),none⟩])
 (.block 0
 (.loop
 (.seq
 (.seq
 (.region [] false ([]) [
 ⟨some 16,Op.move (Operand.tmp 5),none⟩,
 ⟨some 17,Op.move (Operand.tmp 0),none⟩,
 ⟨some 18,Op.call {callee:=Callee.builtin Builtin.len,args:=#[Operand.tmp 17],argTypes:=#[22]},none⟩,
 ⟨some 19,Op.binOp BinOp.lss 3 (Operand.tmp 16) (Operand.tmp 18) 3,none⟩])
 (.cond (Operand.tmp 19)
 .skip
 (.exit 0)))
 (.seq
 (.block 1
 (.seq
 (.region [] true ([]) [
 ⟨some 22,Op.move (Operand.tmp 0),none⟩,
 ⟨some 23,Op.move (Operand.tmp 5),none⟩,
 ⟨some 24,Op.indexAddr 22 (Operand.tmp 22) (Operand.tmp 23),none⟩,
 ⟨some 25,Op.load 2 (Operand.tmp 24),none⟩,
 ⟨some 26,Op.move (Operand.tmp 1),none⟩,
 ⟨some 27,Op.move (Operand.tmp 5),none⟩,
 ⟨some 28,Op.indexAddr 22 (Operand.tmp 26) (Operand.tmp 27),none⟩,
 ⟨some 29,Op.load 2 (Operand.tmp 28),none⟩,
 ⟨some 30,Op.binOp BinOp.neq 2 (Operand.tmp 25) (Operand.tmp 29) 2,none⟩])
 (.cond (Operand.tmp 30)
 (.seq
 (.region [] true ([]) [
 ⟨some 31,Op.move (Operand.tmp 0),none⟩,
 ⟨some 32,Op.move (Operand.tmp 5),none⟩,
 ⟨some 33,Op.indexAddr 22 (Operand.tmp 31) (Operand.tmp 32),none⟩,
 ⟨some 34,Op.load 2 (Operand.tmp 33),none⟩,
 ⟨some 35,Op.move (Operand.tmp 1),none⟩,
 ⟨some 36,Op.move (Operand.tmp 5),none⟩,
 ⟨some 37,Op.indexAddr 22 (Operand.tmp 35) (Operand.tmp 36),none⟩,
 ⟨some 38,Op.load 2 (Operand.tmp 37),none⟩,
 ⟨some 39,Op.binOp BinOp.lss 2 (Operand.tmp 34) (Operand.tmp 38) 2,none⟩,
 ⟨some 4,Op.assign (Operand.tmp 39),none⟩])
 .ret)
 .skip)))
 (.region [] false ([]) [
 ⟨some 20,Op.move (Operand.tmp 5),none⟩,
 ⟨some 21,Op.binOp BinOp.add 3 (Operand.tmp 20) (Operand.const (Value.int IntKind.i64 1)) 3,none⟩,
 ⟨some 5,Op.assign (Operand.tmp 21),none⟩]))))))
 (.seq
 (.region [] false ([]) [
 ⟨some 4,Op.assign (Operand.const (Value.bool false)),none⟩])
 .ret))))
theorem before_c (a b : List Int) (ha : a.length ≤ 1048576) (hb : b.length ≤ 1048576) :
    CallsF Try.prog 145 [.val (ints a), .val (ints b)] (.t (.v (.bool (Short.before a b)))) [] := by
  refine callsF_of_wp1 (fn := Try.f145) (k := k145) (fun _ => []) mixed (by kernel_rfl) rfl (by kernel_rfl) (by kernel_rfl) (by kernel_rfl) rfl (by simp [Try.f145]) (by simp [Arg.like]) ?_
  generalize hst : St.enter [.val (ints a), .val (ints b)] = st0
  have t0 : st0.tm 0 = .t (ints a) := by rw [← hst]; rfl
  have t1 : st0.tm 1 = .t (ints b) := by rw [← hst]; rfl
  clear hst
  unfold k145
  by_cases hl : a.length = b.length
  · have hb1 : Short.before a b = Short.lex a b := by unfold Short.before; rw [if_pos hl]
    repeat' (first
     | refine wp1_seq fun K hK => ?_
     | refine M_cons fun K hK => ?_
     | (refine hK _ ?_; clear hK K)
     | (refine hY _ ?_; clear hX hY X Y)
     | refine wp1_block ?_
     | refine wp1_region ?_
     | refine wp1_cond fun X Y hX hY => ?_
     | (refine condK_of (fun c => ?_) (fun c => ?_) <;> (try simp [-List.length_eq_zero_iff] at c))
     | simp (maxSteps := 4000000) (disch := omega) [t0, t1, hl])
    have hJ : a = b → ∀ s, K s := by
      rintro rfl s
      have : Short.before a a = false := Short.before_irrefl a
      repeat' (first
       | refine wp1_seq fun K hK => ?_
       | refine M_cons fun K hK => ?_
       | (refine hK _ ?_; clear hK K)
       | refine wp1_region ?_
       | simp (maxSteps := 4000000) (disch := omega) [this])
      all_goals try (simp [this, Back]; done)
    clear hK
    refine wp1_loop (fun n s => ∃ k : Nat, s.tm 0 = .t (ints a) ∧ s.tm 1 = .t (ints b) ∧ s.tm 5 = .t (.v (.int .i64 k)) ∧ k ≤ a.length ∧ n = a.length - k ∧ ∀ i < k, rd a i = rd b i) a.length ?_ ?_
    · exact ⟨0, by simp [t0, t1]⟩
    · rintro n s ⟨k, s0, s1, s5, hk, rfl, heq⟩ K' hK'
      by_cases hne : k < a.length ∧ rd a k ≠ rd b k
      · have := lex_first hl hne.1 heq hne.2
        rw [← hb1] at this
        repeat' (first
         | refine wp1_seq fun K hK => ?_
         | refine M_cons fun K hK => ?_
         | (refine hK _ ?_; clear hK K)
         | (refine hX _ ?_; clear hX hY X Y)
         | (refine hY _ ?_; clear hX hY X Y)
         | refine wp1_block ?_
         | refine wp1_region ?_
         | refine wp1_cond fun X Y hX hY => ?_
         | (refine condK_of (fun c => ?_) (fun c => ?_) <;> (try simp [-List.length_eq_zero_iff] at c))
         | simp (maxSteps := 4000000) (disch := omega) [s0, s1, s5, this])
        all_goals try (simp [s0, s1, s5, this, Back]; done)
        all_goals first | omega | (simp [Back, this]; done) | skip
      · repeat' (first
       | refine wp1_seq fun K hK => ?_
       | refine M_cons fun K hK => ?_
       | (refine hK _ ?_; clear hK K)
       | (refine hX _ ?_; clear hX hY X Y)
       | (refine hY _ ?_; clear hX hY X Y)
       | refine wp1_block ?_
       | refine wp1_region ?_
       | refine wp1_cond fun X Y hX hY => ?_
       | (refine condK_of (fun c => ?_) (fun c => ?_) <;> (try simp [-List.length_eq_zero_iff] at c))
       | simp (maxSteps := 4000000) (disch := omega) [s0, s1, s5])
        all_goals first
          | omega
          | (refine hK' (a.length - (k + 1)) _ (by omega) ⟨k + 1, ?_⟩
             simp [s0, s1, s5]
             exact ⟨by omega, below_succ heq c⟩)
          | exact hJ (eq_of_rd (by omega) fun i hi => heq i (by omega)) _
  · have hb1 : Short.before a b = decide (a.length < b.length) := by unfold Short.before; rw [if_neg hl]
    repeat' (first
     | refine wp1_seq fun K hK => ?_
     | refine M_cons fun K hK => ?_
     | (refine hK _ ?_; clear hK K)
     | (refine hX _ ?_; clear hX hY X Y)
     | (refine hY _ ?_; clear hX hY X Y)
     | refine wp1_block ?_
     | refine wp1_region ?_
     | refine wp1_cond fun X Y hX hY => ?_
     | (refine condK_of (fun c => ?_) (fun c => ?_) <;> (try simp [-List.length_eq_zero_iff] at c))
     | simp (maxSteps := 4000000) (disch := omega) [t0, t1, hl, hb1])
    all_goals try (simp [t0, t1, hl, hb1, Back]; done)
    all_goals omega
end Cal

set_option linter.unusedSimpArgs false
set_option linter.unusedVariables false
namespace Cal
open Go Go.Proofs Auto AC
set_option maxRecDepth 100000
/-- The code of spec.l2Plus. -/
def k85 : Code1 :=
 (.seq
 (.region [] false ([]) [
 ⟨some 4,Op.assign (Operand.const (Value.slice none 0 0)),none⟩])
 (.seq
 (.region [8] false ([]) [
 ⟨some 8,Op.buildSlice 22 0 #[],none⟩,
 ⟨some 5,Op.assign (Operand.tmp 8),none⟩])
 (.seq
 (.seq
 (.region [] false ([]) [
 ⟨some 6,Op.assign (Operand.const (Value.int IntKind.i64 0)),none⟩])
 (.block 0
 (.loop
 (.seq
 (.seq
 (.region [] false ([]) [
 ⟨some 9,Op.move (Operand.tmp 6),none⟩,
 ⟨some 10,Op.move (Operand.tmp 0),none⟩,
 ⟨some 11,Op.call {callee:=Callee.builtin Builtin.len,args:=#[Operand.tmp 10],argTypes:=#[22]},none⟩,
 ⟨some 12,Op.binOp BinOp.lss 3 (Operand.tmp 9) (Operand.tmp 11) 3,none⟩])
 (.cond (Operand.tmp 12)
 .skip
 (.exit 0)))
 (.seq
 (.block 1
 (.region [20,21] false ([]) [
 ⟨some 15,Op.move (Operand.tmp 5),none⟩,
 ⟨some 16,Op.move (Operand.tmp 0),none⟩,
 ⟨some 17,Op.move (Operand.tmp 6),none⟩,
 ⟨some 18,Op.indexAddr 22 (Operand.tmp 16) (Operand.tmp 17),none⟩,
 ⟨some 19,Op.load 2 (Operand.tmp 18),none⟩,
 ⟨some 20,Op.buildSlice 22 1 #[(0,Operand.tmp 19)],none⟩,
 ⟨some 21,Op.call {callee:=Callee.builtin Builtin.append,args:=#[Operand.tmp 15,Operand.tmp 20],argTypes:=#[22,22]},none⟩,
 ⟨some 5,Op.assign (Operand.tmp 21),none⟩]))
 (.region [] false ([]) [
 ⟨some 13,Op.move (Operand.tmp 6),none⟩,
 ⟨some 14,Op.binOp BinOp.add 3 (Operand.tmp 13) (Operand.const (Value.int IntKind.i64 1)) 3,none⟩,
 ⟨some 6,Op.assign (Operand.tmp 14),none⟩]))))))
 (.seq
 (.seq
 (.region [] false ([]) [
 ⟨some 7,Op.assign (Operand.const (Value.int IntKind.i64 0)),none⟩])
 (.block 2
 (.loop
 (.seq
 (.seq
 (.region [] false ([]) [
 ⟨some 22,Op.move (Operand.tmp 7),none⟩,
 ⟨some 23,Op.move (Operand.tmp 1),none⟩,
 ⟨some 24,Op.call {callee:=Callee.builtin Builtin.len,args:=#[Operand.tmp 23],argTypes:=#[22]},none⟩,
 ⟨some 25,Op.binOp BinOp.lss 3 (Operand.tmp 22) (Operand.tmp 24) 3,none⟩])
 (.cond (Operand.tmp 25)
 .skip
 (.exit 2)))
 (.seq
 (.block 3
 (.region [33,34] false ([]) [
 ⟨some 28,Op.move (Operand.tmp 5),none⟩,
 ⟨some 29,Op.move (Operand.tmp 1),none⟩,
 ⟨some 30,Op.move (Operand.tmp 7),none⟩,
 ⟨some 31,Op.indexAddr 22 (Operand.tmp 29) (Operand.tmp 30),none⟩,
 ⟨some 32,Op.load 2 (Operand.tmp 31),none⟩,
 ⟨some 33,Op.buildSlice 22 1 #[(0,Operand.tmp 32)],none⟩,
 ⟨some 34,Op.call {callee:=Callee.builtin Builtin.append,args:=#[Operand.tmp 28,Operand.tmp 33],argTypes:=#[22,22]},none⟩,
 ⟨some 5,Op.assign (Operand.tmp 34),none⟩]))
 (.region [] false ([]) [
 ⟨some 26,Op.move (Operand.tmp 7),none⟩,
 ⟨some 27,Op.binOp BinOp.add 3 (Operand.tmp 26) (Operand.const (Value.int IntKind.i64 1)) 3,none⟩,
 ⟨some 7,Op.assign (Operand.tmp 27),none⟩]))))))
 (.seq
 (.region [] false ([]) [
 ⟨some 35,Op.move (Operand.tmp 5),none⟩,
 ⟨some 4,Op.assign (Operand.tmp 35),none⟩])
 .ret)))))
theorem plus_c (a b : List Int) (ha : a.length ≤ 1048576) (hb : b.length ≤ 1048576) :
    CallsF Try.prog 85 [.val (ints a), .val (ints b)] (.own 1 (intRow (a ++ b))) [] := by
  refine callsF_of_wp2 (fn := Try.f85) (k := k85) (fun _ => []) mixed (by kernel_rfl) rfl (by kernel_rfl) (by kernel_rfl) (by kernel_rfl) rfl (by simp [Try.f85]) (by simp [Arg.like]) ?_
  generalize hst : St.enter [.val (ints a), .val (ints b)] = st0
  have t0 : st0.tm 0 = .t (ints a) := by rw [← hst]; rfl
  have t1 : st0.tm 1 = .t (ints b) := by rw [← hst]; rfl
  clear hst
  unfold k85
  repeat' (first
   | refine wp2_seq fun K hK => ?_
   | refine M_cons fun K hK => ?_
   | (refine hK _ ?_; clear hK K)
   | refine wp2_block ?_
   | refine wp2_region ?_
   | simp (maxSteps := 4000000) (disch := omega) [t0, t1])
  have hJ : ∀ s, s.tm 0 = .t (ints a) → s.tm 1 = .t (ints b) → s.tm 5 = .row (8, 0) 1 0 a.length → s.ob (8, 0) = some (.row 1 (intRow a)) → K s := by
    intro s s0 s1 s5 o
    repeat' (first
     | refine wp2_seq fun K hK => ?_
     | refine M_cons fun K hK => ?_
     | (refine hK _ ?_; clear hK K)
     | refine wp2_block ?_
     | refine wp2_region ?_
     | simp (maxSteps := 4000000) (disch := omega) [s0, s1, s5, o])
    have hJ : ∀ s, s.tm 5 = .row (8, 0) 1 0 (a ++ b).length → s.ob (8, 0) = some (.row 1 (intRow (a ++ b))) → K s := by
      intro s s5 o
      rw [List.length_append] at s5
      repeat' (first
       | refine wp2_seq fun K hK => ?_
       | refine M_cons fun K hK => ?_
       | (refine hK _ ?_; clear hK K)
       | refine wp2_region ?_
       | simp (maxSteps := 4000000) (disch := omega) [s5, o])
      all_goals try (simp [s5, o, Back]; done)
    clear hK
    refine wp2_loop (fun n s => ∃ k : Nat, s.tm 1 = .t (ints b) ∧ s.tm 5 = .row (8, 0) 1 0 (a.length + k) ∧ s.ob (8, 0) = some (.row 1 (intRow (a ++ b.take k))) ∧ s.tm 7 = .t (.v (.int .i64 k)) ∧ k ≤ b.length ∧ n = b.length - k) b.length ?_ ?_
    · exact ⟨0, by simp [s1, s5, o]⟩
    · rintro n s ⟨k, s1, s5, o, s7, hk, rfl⟩ K' hK'
      have tl : (b.take k).length = k := by rw [List.length_take]; omega
      by_cases hkl : k < b.length
      · have q := take_snoc hkl
        have tl2 : (a ++ b.take k).length = a.length + k := by rw [List.length_append, tl]
        repeat' (first
         | refine wp2_seq fun K hK => ?_
         | refine M_cons fun K hK => ?_
         | (refine hK _ ?_; clear hK K)
         | (refine hX _ ?_; clear hX hY X Y)
         | (refine hY _ ?_; clear hX hY X Y)
         | refine wp2_block ?_
         | refine wp2_canon (ops := ⟨some 26, _, _⟩ :: _) [(5, 8)] ?_
         | refine wp2_region ?_
         | refine wp2_cond fun X Y hX hY => ?_
         | (refine condK_of (fun c => ?_) (fun c => ?_) <;> (try simp [-List.length_eq_zero_iff] at c))
         | simp (maxSteps := 4000000) (disch := omega) [s1, s5, o, s7, tl, tl2])
        all_goals first
          | omega
          | (refine hK' (b.length - (k + 1)) _ (by omega) ⟨k + 1, ?_⟩
             simp [s1, ← q]
             omega)
      · have hkl : k = b.length := by omega
        subst hkl
        rw [List.take_length] at o
        repeat' (first
         | refine wp2_seq fun K hK => ?_
         | refine M_cons fun K hK => ?_
         | (refine hK _ ?_; clear hK K)
         | (refine hY _ ?_; clear hX hY X Y)
         | refine wp2_region ?_
         | refine wp2_cond fun X Y hX hY => ?_
         | (refine condK_of (fun c => ?_) (fun c => ?_) <;> (try simp [-List.length_eq_zero_iff] at c))
         | simp (maxSteps := 4000000) (disch := omega) [s1, s5, o, s7])
        exact hJ _ (by simp [s5]) (by simp [o])
  clear hK
  refine wp2_loop (fun n s => ∃ k : Nat, s.tm 0 = .t (ints a) ∧ s.tm 1 = .t (ints b) ∧ s.tm 5 = .row (8, 0) 1 0 k ∧ s.ob (8, 0) = some (.row 1 (intRow (a.take k))) ∧ s.tm 6 = .t (.v (.int .i64 k)) ∧ k ≤ a.length ∧ n = a.length - k) a.length ?_ ?_
  · exact ⟨0, by simp [t0, t1, intRow]⟩
  · rintro n s ⟨k, s0, s1, s5, o, s6, hk, rfl⟩ K' hK'
    have tl : (a.take k).length = k := by rw [List.length_take]; omega
    by_cases hkl : k < a.length
    · have q := take_snoc hkl
      repeat' (first
       | refine wp2_seq fun K hK => ?_
       | refine M_cons fun K hK => ?_
       | (refine hK _ ?_; clear hK K)
       | (refine hX _ ?_; clear hX hY X Y)
       | (refine hY _ ?_; clear hX hY X Y)
       | refine wp2_block ?_
       | refine wp2_canon (ops := ⟨some 13, _, _⟩ :: _) [(5, 8)] ?_
       | refine wp2_region ?_
       | refine wp2_cond fun X Y hX hY => ?_
       | (refine condK_of (fun c => ?_) (fun c => ?_) <;> (try simp [-List.length_eq_zero_iff] at c))
       | simp (maxSteps := 4000000) (disch := omega) [s0, s1, s5, o, s6, tl])
      all_goals first
        | omega
        | (refine hK' (a.length - (k + 1)) _ (by omega) ⟨k + 1, ?_⟩
           simp [s0, s1, ← q]
           omega)
    · have hkl : k = a.length := by omega
      subst hkl
      rw [List.take_length] at o
      repeat' (first
       | refine wp2_seq fun K hK => ?_
       | refine M_cons fun K hK => ?_
       | (refine hK _ ?_; clear hK K)
       | (refine hY _ ?_; clear hX hY X Y)
       | refine wp2_region ?_
       | refine wp2_cond fun X Y hX hY => ?_
       | (refine condK_of (fun c => ?_) (fun c => ?_) <;> (try simp [-List.length_eq_zero_iff] at c))
       | simp (maxSteps := 4000000) (disch := omega) [s0, s1, s5, o, s6])
      exact hJ _ (by simp [s0]) (by simp [s1]) (by simp [s5]) (by simp [o])
/-! places among rising words -/
def place : List (List Int) → List Int → Nat
  | [], _ => 0
  | x :: xs, w => if Short.before x w = true then place xs w + 1 else 0
/-- Words of a length that the calculus takes. -/
structure Wds (ws : List (List Int)) : Prop where
  rise : Short.Rising ws
  len : ws.length ≤ 100000
  each : ∀ i : Nat, i < ws.length → (ws.getD i []).length ≤ 100000
end Cal

/- spec.l5Find and what is said of walks. -/
set_option linter.unusedSimpArgs false
set_option linter.unusedVariables false
namespace Cal
open Go Go.Proofs
set_option maxRecDepth 100000
/-- A walk: its edges, its cost, its key. -/
structure Wk where
  e : List Int
  c : Int
  k : List Int
instance : Inhabited Wk := ⟨⟨[], 0, []⟩⟩
def encW (w : Wk) : List T := [ints w.e, .v (.int .i64 w.c), ints w.k]
@[simp] theorem encW_length (w : Wk) : (encW w).length = 3 := rfl
def findW (ws : List Wk) (key : List Int) : Nat := ws.findIdx fun w => decide (w.k = key)
def fI (ws : List Wk) (key : List Int) : Int := if findW ws key < ws.length then findW ws key else -1
/-- Rows of walks that the calculus takes. -/
structure Wks (ws : List Wk) : Prop where
  len : ws.length ≤ 1000000
  each : ∀ i : Nat, i < ws.length → (nth ws i).e.length ≤ 1000000 ∧ (nth ws i).k.length ≤ 1000000
theorem findW_at {ws : List Wk} {key : List Int} {j : Nat} (h : j < ws.length) (h1 : ∀ i < j, ¬ (nth ws i).k = key) (h2 : (nth ws j).k = key) : fI ws key = j := by
  have e : findW ws key = j := by
    unfold findW
    rw [List.findIdx_eq h]
    refine ⟨by rw [← nth_get h]; simpa using h2, fun i hi => ?_⟩
    have := h1 i hi
    rw [← nth_get (by omega)]
    simpa using this
  unfold fI
  rw [e, if_pos h]
theorem findW_not {ws : List Wk} {key : List Int} (h1 : ∀ i < ws.length, ¬ (nth ws i).k = key) : fI ws key = -1 := by
  unfold fI
  rw [if_neg]
  intro h
  have h2 := List.findIdx_getElem (w := h)
  have h3 := h1 _ h
  rw [nth_get h] at h3
  unfold findW at h3
  exact h3 (by simpa using h2)
@[simp] theorem row_Wget {ws : List Wk} {i : Nat} (h : i < ws.length) : (recRow encW ws)[i]? = some (encW (nth ws i)) := recRow_get encW h
@[simp] theorem index_W (e : Nat) (ag : Bool) (b : Nat) (z : List Value) (l : List Wk) (i : Int) (h0 : 0 ≤ i) (h1 : i < l.length) : indexAddrA (some (e, ⟨ag, 3, b, z⟩)) (.t (recs encW l)) i = some (.roptr (encW (nth l i))) := index_recs encW e ag 3 b z l i (fun _ => rfl) h0 h1
/-- The code of spec.l5Find. -/
def k83 : Code1 :=
 (.seq
 (.region [] false ([]) [
 ⟨some 4,Op.assign (Operand.const (Value.int IntKind.i64 0)),none⟩])
 (.seq
 (.seq
 (.region [] false ([]) [
 ⟨some 5,Op.assign (Operand.const (Value.int IntKind.i64 0)),none⟩])
 (.block 0
 (.loop
 (.seq
 (.seq
 (.region [] false ([]) [
 ⟨some 6,Op.move (Operand.tmp 5),none⟩,
 ⟨some 7,Op.move (Operand.tmp 0),none⟩,
 ⟨some 8,Op.call {callee:=Callee.builtin Builtin.len,args:=#[Operand.tmp 7],argTypes:=#[126]},none⟩,
 ⟨some 9,Op.binOp BinOp.lss 3 (Operand.tmp 6) (Operand.tmp 8) 3,none⟩])
 (.cond (Operand.tmp 9)
 .skip
 (.exit 0)))
 (.seq
 (.block 1
 (.seq
 (.region [18] false ([]) [
 ⟨some 12,Op.move (Operand.tmp 0),none⟩,
 ⟨some 13,Op.move (Operand.tmp 5),none⟩,
 ⟨some 14,Op.indexAddr 126 (Operand.tmp 12) (Operand.tmp 13),none⟩,
 ⟨some 15,Op.fieldAddr 125 (Operand.tmp 14) 2,none⟩,
 ⟨some 16,Op.load 22 (Operand.tmp 15),none⟩,
 ⟨some 17,Op.move (Operand.tmp 1),none⟩,
 ⟨some 18,Op.call {callee:=Callee.value (Operand.func 146),args:=#[Operand.tmp 16,Operand.tmp 17],argTypes:=#[22,22]},none⟩])
 (.cond (Operand.tmp 18)
 (.seq
 (.region [] false ([]) [
 ⟨some 19,Op.move (Operand.tmp 5),none⟩,
 ⟨some 4,Op.assign (Operand.tmp 19),none⟩])
 .ret)
 .skip)))
 (.region [] false ([]) [
 ⟨some 10,Op.move (Operand.tmp 5),none⟩,
 ⟨some 11,Op.binOp BinOp.add 3 (Operand.tmp 10) (Operand.const (Value.int IntKind.i64 1)) 3,none⟩,
 ⟨some 5,Op.assign (Operand.tmp 11),none⟩]))))))
 (.seq
 (.region [] false ([]) [
 ⟨some 4,Op.assign (Operand.const (Value.int IntKind.i64 (-1))),none⟩])
 .ret)))
theorem find_c {ws : List Wk} {key : List Int} (hW : Wks ws) (hk : key.length ≤ 1000000) :
    CallsF Try.prog 83 [.val (recs encW ws), .val (ints key)] (.t (.v (.int .i64 (fI ws key)))) [] := by
  have l1 := hW.len
  refine callsF_of_wp2 (fn := Try.f83) (k := k83) (fun _ => []) mixed (by kernel_rfl) rfl (by kernel_rfl) (by kernel_rfl) (by kernel_rfl) rfl (by simp [Try.f83]) (by simp [Arg.like]) ?_
  generalize hst : St.enter [.val (recs encW ws), .val (ints key)] = st0
  have t0 : st0.tm 0 = .t (recs encW ws) := by rw [← hst]; rfl
  have t1 : st0.tm 1 = .t (ints key) := by rw [← hst]; rfl
  clear hst
  unfold k83
  repeat' (first
   | refine wp2_seq fun K hK => ?_
   | refine M_cons fun K hK => ?_
   | (refine hK _ ?_; clear hK K)
   | refine wp2_block ?_
   | refine wp2_region ?_
   | simp (maxSteps := 4000000) (disch := omega) [t0, t1])
  have hJ : (∀ i < ws.length, ¬ (nth ws i).k = key) → ∀ s, K s := by
    intro hn s
    have e := findW_not hn
    repeat' (first
     | refine wp2_seq fun K hK => ?_
     | refine M_cons fun K hK => ?_
     | (refine hK _ ?_; clear hK K)
     | refine wp2_region ?_
     | simp (maxSteps := 4000000) (disch := omega) [e])
    all_goals try (simp [e, Back]; done)
  clear hK
  refine wp2_loop (fun n s => ∃ k : Nat, s.tm 0 = .t (recs encW ws) ∧ s.tm 1 = .t (ints key) ∧ s.tm 5 = .t (.v (.int .i64 k)) ∧ k ≤ ws.length ∧ n = ws.length - k ∧ ∀ i < k, ¬ (nth ws i).k = key) ws.length ?_ ?_
  · exact ⟨0, by simp [t0, t1]⟩
  · rintro n s ⟨k, s0, s1, s5, hk', rfl, hq⟩ K' hK'
    by_cases hlt : k < ws.length
    · have hb := hW.each k hlt
      by_cases hc : (nth ws k).k = key
      · have e := findW_at hlt hq hc
        repeat' (first
         | refine wp2_seq fun K hK => ?_
         | refine M_cons fun K hK => ?_
         | (refine hK _ ?_; clear hK K)
         | (refine hX _ ?_; clear hX hY X Y)
         | refine wp2_block ?_
         | refine wp2_region ?_
         | refine wp2_cond fun X Y hX hY => ?_
         | (refine condK_of (fun c => ?_) (fun c => ?_) <;> (try simp [-List.length_eq_zero_iff] at c))
         | (refine callT_fl (same_c _ _ ?_ ?_) (by simp [St.args, St.arg, s0, s1, s5, hlt, e, hc, encW] <;> first | rfl | ((repeat' first | rfl | apply And.intro); first | done | fail)) ?_; omega; omega)
         | simp (maxSteps := 4000000) (disch := omega) [s0, s1, s5, hlt, e, hc, encW])
        all_goals try (simp [s0, s1, s5, hlt, e, hc, encW, Back]; done)
      · repeat' (first
       | refine wp2_seq fun K hK => ?_
       | refine M_cons fun K hK => ?_
       | (refine hK _ ?_; clear hK K)
       | (refine hX _ ?_; clear hX hY X Y)
       | (refine hY _ ?_; clear hX hY X Y)
       | refine wp2_block ?_
       | refine wp2_region ?_
       | refine wp2_cond fun X Y hX hY => ?_
       | (refine condK_of (fun c => ?_) (fun c => ?_) <;> (try simp [-List.length_eq_zero_iff] at c))
       | (refine callT_fl (same_c _ _ ?_ ?_) (by simp [St.args, St.arg, s0, s1, s5, hlt, hc, encW] <;> first | rfl | ((repeat' first | rfl | apply And.intro); first | done | fail)) ?_; omega; omega)
       | simp (maxSteps := 4000000) (disch := omega) [s0, s1, s5, hlt, hc, encW])
        refine hK' (ws.length - (k + 1)) _ (by omega) ⟨k + 1, ?_⟩
        simp [s0, s1, s5]
        exact ⟨by omega, below_succ hq hc⟩
    · have hkl : k = ws.length := by omega
      subst hkl
      repeat' (first
       | refine wp2_seq fun K hK => ?_
       | refine M_cons fun K hK => ?_
       | (refine hK _ ?_; clear hK K)
       | (refine hY _ ?_; clear hX hY X Y)
       | refine wp2_region ?_
       | refine wp2_cond fun X Y hX hY => ?_
       | (refine condK_of (fun c => ?_) (fun c => ?_) <;> (try simp [-List.length_eq_zero_iff] at c))
       | simp (maxSteps := 4000000) (disch := omega) [s0, s1, s5])
      exact hJ (fun i hi => hq i (by omega)) _
end Cal

/- spec.l5Keep, l5Fresh. -/
set_option linter.unusedSimpArgs false
set_option linter.unusedVariables false
namespace Cal
open Go Go.Proofs
set_option maxRecDepth 100000
def betterW (a b : Wk) : Bool := decide (a.c < b.c) || (decide (a.c = b.c) && Short.before a.e b.e)
def keepW (ws : List Wk) (w : Wk) : List Wk :=
  if fI ws w.k < 0 then ws ++ [w] else if betterW w (nth ws (fI ws w.k)) = true then ws.set (fI ws w.k).toNat w else ws
theorem fI_cases (ws : List Wk) (key : List Int) : fI ws key = -1 ∨ ∃ i : Nat, fI ws key = i ∧ i < ws.length := by
  unfold fI
  split
  · exact .inr ⟨_, rfl, by assumption⟩
  · exact .inl rfl
/-- A record behind others. -/
def appendC (sz b : Nat) (o : Option Ob) (d : Nat) (id : Id) (n : Nat) (es : List (List T)) : Option (AV × Eff) :=
  match o with
  | some (.row s fs) => if s = sz ∧ n = fs.length ∧ (n + es.length) * b ≤ lim then some (.row (d, 0) s 0 (n + es.length), [(id, none), ((d, 0), some (.row s (fs ++ es)))]) else none
  | _ => none
@[simp] theorem appendA_W (d : Nat) (st : St) (id : Id) (e n : Nat) (es : List (List T)) : appendA d st ⟨true, 3, 56, [.slice none 0 0, .int .i64 0, .slice none 0 0]⟩ (.row id e 0 n) es = appendC 3 56 (st.ob id) d id n es := rfl
@[simp] theorem appendC_W (d : Nat) (id : Id) (l : List Wk) (n : Nat) (hn : n = l.length) (hl : n ≤ 1000000) (a b : List Int) (c : Int) : appendC 3 56 (some (.row 3 (recRow encW l))) d id n [[ints a, .v (.int .i64 c), ints b]] = some (.row (d, 0) 3 0 (n + 1), [(id, none), ((d, 0), some (.row 3 (recRow encW (l ++ [⟨a, c, b⟩]))))]) := by
  subst hn
  unfold appendC
  dsimp only
  rw [if_pos ⟨rfl, by rw [recRow_length], by unfold lim; simp only [List.length_cons, List.length_nil]; omega⟩]
  simp [recRow, encW]
@[simp] theorem overT_3 (a b c x y z : T) : overT [a, b, c] 0 [x, y, z] = [x, y, z] := rfl
/-- The code of spec.l5Keep. -/
def k84 : Code1 :=
 (.seq
 (.region [3] false ([]) [
 ⟨some 3,Op.box 125 (Operand.tmp 1),none⟩,
 ⟨some 4,Op.assign (Operand.const (Value.slice none 0 0)),none⟩])
 (.seq
 (.region [9] false ([]) [
 ⟨some 6,Op.move (Operand.tmp 0),none⟩,
 ⟨some 7,Op.fieldAddr 125 (Operand.tmp 3) 2,none⟩,
 ⟨some 8,Op.load 22 (Operand.tmp 7),none⟩,
 ⟨some 9,Op.call {callee:=Callee.value (Operand.func 83),args:=#[Operand.tmp 6,Operand.tmp 8],argTypes:=#[126,22]},none⟩,
 ⟨some 5,Op.assign (Operand.tmp 9),none⟩])
 (.seq
 (.seq
 (.region [] false ([]) [
 ⟨some 10,Op.move (Operand.tmp 5),none⟩,
 ⟨some 11,Op.binOp BinOp.lss 3 (Operand.tmp 10) (Operand.const (Value.int IntKind.i64 0)) 3,none⟩])
 (.cond (Operand.tmp 11)
 (.seq
 (.region [14,15] false ([]) [
 ⟨some 12,Op.move (Operand.tmp 0),none⟩,
 ⟨some 13,Op.load 125 (Operand.tmp 3),none⟩,
 ⟨some 14,Op.buildSlice 126 1 #[(0,Operand.tmp 13)],none⟩,
 ⟨some 15,Op.call {callee:=Callee.builtin Builtin.append,args:=#[Operand.tmp 12,Operand.tmp 14],argTypes:=#[126,126]},none⟩,
 ⟨some 4,Op.assign (Operand.tmp 15),none⟩])
 .ret)
 .skip))
 (.seq
 (.seq
 (.region [41] true ([]) [
 ⟨some 16,Op.fieldAddr 125 (Operand.tmp 3) 1,none⟩,
 ⟨some 17,Op.load 2 (Operand.tmp 16),none⟩,
 ⟨some 18,Op.move (Operand.tmp 0),none⟩,
 ⟨some 19,Op.move (Operand.tmp 5),none⟩,
 ⟨some 20,Op.indexAddr 126 (Operand.tmp 18) (Operand.tmp 19),none⟩,
 ⟨some 21,Op.fieldAddr 125 (Operand.tmp 20) 1,none⟩,
 ⟨some 22,Op.load 2 (Operand.tmp 21),none⟩,
 ⟨some 23,Op.binOp BinOp.lss 2 (Operand.tmp 17) (Operand.tmp 22) 2,none⟩,
 ⟨some 24,Op.move (Operand.tmp 23),none⟩,
 ⟨some 25,Op.fieldAddr 125 (Operand.tmp 3) 1,some (24,false)⟩,
 ⟨some 26,Op.load 2 (Operand.tmp 25),some (24,false)⟩,
 ⟨some 27,Op.move (Operand.tmp 0),some (24,false)⟩,
 ⟨some 28,Op.move (Operand.tmp 5),some (24,false)⟩,
 ⟨some 29,Op.indexAddr 126 (Operand.tmp 27) (Operand.tmp 28),some (24,false)⟩,
 ⟨some 30,Op.fieldAddr 125 (Operand.tmp 29) 1,some (24,false)⟩,
 ⟨some 31,Op.load 2 (Operand.tmp 30),some (24,false)⟩,
 ⟨some 32,Op.binOp BinOp.eql 2 (Operand.tmp 26) (Operand.tmp 31) 2,some (24,false)⟩,
 ⟨some 33,Op.move (Operand.tmp 32),some (24,false)⟩,
 ⟨some 34,Op.fieldAddr 125 (Operand.tmp 3) 0,some (33,true)⟩,
 ⟨some 35,Op.load 22 (Operand.tmp 34),some (33,true)⟩,
 ⟨some 36,Op.move (Operand.tmp 0),some (33,true)⟩,
 ⟨some 37,Op.move (Operand.tmp 5),some (33,true)⟩,
 ⟨some 38,Op.indexAddr 126 (Operand.tmp 36) (Operand.tmp 37),some (33,true)⟩,
 ⟨some 39,Op.fieldAddr 125 (Operand.tmp 38) 0,some (33,true)⟩,
 ⟨some 40,Op.load 22 (Operand.tmp 39),some (33,true)⟩,
 ⟨some 41,Op.call {callee:=Callee.value (Operand.func 145),args:=#[Operand.tmp 35,Operand.tmp 40],argTypes:=#[22,22]},some (33,true)⟩,
 ⟨some 42,Op.pick (Operand.tmp 33) (Operand.tmp 41) (Operand.const (Value.bool false)),some (24,false)⟩,
 ⟨some 43,Op.pick (Operand.tmp 24) (Operand.const (Value.bool true)) (Operand.tmp 42),none⟩])
 (.cond (Operand.tmp 43)
 (.region [] false ([]) [
 ⟨some 44,Op.move (Operand.tmp 0),none⟩,
 ⟨some 45,Op.move (Operand.tmp 5),none⟩,
 ⟨some 46,Op.load 125 (Operand.tmp 3),none⟩,
 ⟨some 47,Op.indexAddr 126 (Operand.tmp 44) (Operand.tmp 45),none⟩,
 ⟨none,Op.store 125 (Operand.tmp 47) (Operand.tmp 46),none⟩])
 .skip))
 (.seq
 (.region [] false ([]) [
 ⟨some 48,Op.move (Operand.tmp 0),none⟩,
 ⟨some 4,Op.assign (Operand.tmp 48),none⟩])
 .ret)))))
set_option maxHeartbeats 0 in
theorem keep_c {ws : List Wk} {w : Wk} (hW : Wks ws) (he : w.e.length ≤ 1000000) (hk : w.k.length ≤ 1000000) :
    CallsF Try.prog 84 [.mrow 3 (recRow encW ws), .agg (encW w)] (.own 3 (recRow encW (keepW ws w))) [none] := by
  have l1 := hW.len
  have f1 := find_c (ws := ws) (key := w.k) hW hk
  refine callsF_of_wp2 (fn := Try.f84) (k := k84) (fun _ => []) mixed (by kernel_rfl) rfl (by kernel_rfl) (by kernel_rfl) (by kernel_rfl) rfl (by simp [Try.f84]) (by simp [Arg.like]) ?_
  generalize hst : St.enter [.mrow 3 (recRow encW ws), .agg (encW w)] = st0
  have t0 : st0.tm 0 = .row (100000, 0) 3 0 ((recRow encW ws)).length := by rw [← hst]; rfl
  have o0 : st0.ob (100000, 0) = some (.row 3 (recRow encW ws)) := by rw [← hst]; rfl
  have t1 : st0.tm 1 = .agg ((encW w) |>.map .t) := by rw [← hst]; rfl
  clear hst
  unfold k84
  simp [encW] at t1
  have q1 : ∀ i : Nat, i < ws.length → [ints (nth ws i).e, .v (.int .i64 (nth ws i).c), ints (nth ws i).k] = encW (nth ws i) := fun i _ => rfl
  rcases fI_cases ws w.k with e | ⟨i, e, hi⟩
  · have k1 : keepW ws w = ws ++ [w] := by unfold keepW; rw [e]; rfl
    repeat' (first
     | refine wp2_seq fun K hK => ?_
     | refine M_cons fun K hK => ?_
     | (refine hK _ ?_; clear hK K)
     | (refine hX _ ?_; clear hX hY X Y)
     | refine wp2_region ?_
     | refine wp2_cond fun X Y hX hY => ?_
     | (refine condK_of (fun c => ?_) (fun c => ?_) <;> (try simp [-List.length_eq_zero_iff] at c))
     | (refine callT_fl (f1) (by simp [St.args, St.arg, t0, t1, o0, e, k1] <;> first | rfl | ((repeat' first | rfl | apply And.intro); first | done | fail)) ?_)
     | simp (maxSteps := 4000000) (disch := omega) [t0, t1, o0, e, k1])
    all_goals try (simp [t0, t1, o0, e, k1, Back]; done)
  · have hb := hW.each i hi
    have hn : ¬ fI ws w.k < 0 := by omega
    have k1 : keepW ws w = if betterW w (nth ws i) = true then ws.set i w else ws := by
      unfold keepW
      rw [e, if_neg (by omega), Int.toNat_natCast]
    have s1 : (recRow encW ws).set i [ints w.e, .v (.int .i64 w.c), ints w.k] = recRow encW (ws.set i w) := by simp [recRow, encW, List.map_set]
    by_cases hc : w.c < (nth ws i).c
    · have k2 : keepW ws w = ws.set i w := by rw [k1, if_pos]; simp [betterW, hc]
      repeat' (first
       | refine wp2_seq fun K hK => ?_
       | refine M_cons fun K hK => ?_
       | (refine hK _ ?_; clear hK K)
       | (refine hX _ ?_; clear hX hY X Y)
       | (refine hY _ ?_; clear hX hY X Y)
       | refine wp2_region ?_
       | refine wp2_cond fun X Y hX hY => ?_
       | (refine condK_of (fun c => ?_) (fun c => ?_) <;> (try simp [-List.length_eq_zero_iff] at c))
       | (refine callT_fl (f1) (by simp [St.args, St.arg, t0, t1, o0, e, hi, encW, hc, k2, s1] <;> first | rfl | ((repeat' first | rfl | apply And.intro); first | done | fail)) ?_)
       | simp (maxSteps := 4000000) (disch := omega) [t0, t1, o0, e, hi, encW, hc, k2, s1])
      all_goals try (simp [t0, t1, o0, e, hi, encW, hc, k2, s1, Back]; done)
      all_goals first | omega | skip
    · by_cases hc2 : w.c = (nth ws i).c
      · cases hbf : Short.before w.e (nth ws i).e with
        | true =>
          have k2 : keepW ws w = ws.set i w := by rw [k1, if_pos]; simp [betterW, hc2, hbf]
          have s2 := s1
          rw [hc2] at s2
          repeat' (first
           | refine wp2_seq fun K hK => ?_
           | refine M_cons fun K hK => ?_
           | (refine hK _ ?_; clear hK K)
           | (refine hX _ ?_; clear hX hY X Y)
           | (refine hY _ ?_; clear hX hY X Y)
           | refine wp2_region ?_
           | refine wp2_cond fun X Y hX hY => ?_
           | (refine condK_of (fun c => ?_) (fun c => ?_) <;> (try simp [-List.length_eq_zero_iff] at c))
           | (refine callT_fl (f1) (by simp [St.args, St.arg, t0, t1, o0, e, hi, encW, hc2, k2, s2, hbf] <;> first | rfl | ((repeat' first | rfl | apply And.intro); first | done | fail)) ?_)
           | (refine callT_fl (before_c _ _ ?_ ?_) (by simp [St.args, St.arg, t0, t1, o0, e, hi, encW, hc2, k2, s2, hbf] <;> first | rfl | ((repeat' first | rfl | apply And.intro); first | done | fail)) ?_; omega; omega)
           | simp (maxSteps := 4000000) (disch := omega) [t0, t1, o0, e, hi, encW, hc2, k2, s2, hbf])
          all_goals try (simp [t0, t1, o0, e, hi, encW, hc2, k2, s2, hbf, Back]; done)
          all_goals first | omega | skip
        | false =>
          have k2 : keepW ws w = ws := by rw [k1, if_neg]; simp [betterW, hc2, hbf]
          repeat' (first
           | refine wp2_seq fun K hK => ?_
           | refine M_cons fun K hK => ?_
           | (refine hK _ ?_; clear hK K)
           | (refine hX _ ?_; clear hX hY X Y)
           | (refine hY _ ?_; clear hX hY X Y)
           | refine wp2_region ?_
           | refine wp2_cond fun X Y hX hY => ?_
           | (refine condK_of (fun c => ?_) (fun c => ?_) <;> (try simp [-List.length_eq_zero_iff] at c))
           | (refine callT_fl (f1) (by simp [St.args, St.arg, t0, t1, o0, e, hi, encW, hc2, k2, s1, hbf] <;> first | rfl | ((repeat' first | rfl | apply And.intro); first | done | fail)) ?_)
           | (refine callT_fl (before_c _ _ ?_ ?_) (by simp [St.args, St.arg, t0, t1, o0, e, hi, encW, hc2, k2, s1, hbf] <;> first | rfl | ((repeat' first | rfl | apply And.intro); first | done | fail)) ?_; omega; omega)
           | simp (maxSteps := 4000000) (disch := omega) [t0, t1, o0, e, hi, encW, hc2, k2, s1, hbf])
          all_goals try (simp [t0, t1, o0, e, hi, encW, hc2, k2, s1, hbf, Back]; done)
          all_goals first | omega | skip
      · have k2 : keepW ws w = ws := by rw [k1, if_neg]; simp [betterW, hc, hc2]
        repeat' (first
         | refine wp2_seq fun K hK => ?_
         | refine M_cons fun K hK => ?_
         | (refine hK _ ?_; clear hK K)
         | (refine hX _ ?_; clear hX hY X Y)
         | (refine hY _ ?_; clear hX hY X Y)
         | refine wp2_region ?_
         | refine wp2_cond fun X Y hX hY => ?_
         | (refine condK_of (fun c => ?_) (fun c => ?_) <;> (try simp [-List.length_eq_zero_iff] at c))
         | (refine guard1_or (fun c => ?_) (fun c => ?_) <;> (have cc := c) <;> (try simp [-List.length_eq_zero_iff] at cc) <;> (try simp (disch := omega) [t0, t1, o0, e, hi, encW, hc, hc2, k2, s1, c]))
         | (refine callT_fl (f1) (by simp [St.args, St.arg, t0, t1, o0, e, hi, encW, hc, hc2, k2, s1] <;> first | rfl | ((repeat' first | rfl | apply And.intro); first | done | fail)) ?_)
         | simp (maxSteps := 4000000) (disch := omega) [t0, t1, o0, e, hi, encW, hc, hc2, k2, s1])
        all_goals try (simp [t0, t1, o0, e, hi, encW, hc, hc2, k2, s1, Back]; done)
        all_goals first | omega | skip
end Cal

/- spec.l5Fresh, l5See. -/
set_option linter.unusedSimpArgs false
set_option linter.unusedVariables false
namespace Cal
open Go Go.Proofs
set_option maxRecDepth 100000
def isFresh (seen : List Wk) (w : Wk) : Bool := decide (fI seen w.k < 0) || decide (w.c < (nth seen (fI seen w.k)).c)
def freshW (ws seen : List Wk) : List Wk := ws.filter (isFresh seen)
theorem take_nth {α : Type} [Inhabited α] {l : List α} {k : Nat} (h : k < l.length) : l.take (k + 1) = l.take k ++ [nth l k] := by
  rw [List.take_add_one, List.getElem?_eq_getElem h, nth_get h]
  rfl
theorem freshW_len (ws seen : List Wk) (k : Nat) : (freshW (ws.take k) seen).length ≤ k := by
  refine Nat.le_trans (List.length_filter_le _ _) ?_
  rw [List.length_take]
  omega
theorem freshW_yes {ws seen : List Wk} {k : Nat} (h : k < ws.length) (hf : isFresh seen (nth ws k) = true) : freshW (ws.take (k + 1)) seen = freshW (ws.take k) seen ++ [nth ws k] := by
  unfold freshW
  rw [take_nth h, List.filter_append]
  simp [hf]
theorem freshW_no {ws seen : List Wk} {k : Nat} (h : k < ws.length) (hf : isFresh seen (nth ws k) = false) : freshW (ws.take (k + 1)) seen = freshW (ws.take k) seen := by
  unfold freshW
  rw [take_nth h, List.filter_append]
  simp [hf]
@[simp] theorem appendC_W0 (d : Nat) (id : Id) (n : Nat) (hn : n = 0) (a b : List Int) (c : Int) : appendC 3 56 (some (.row 3 [])) d id n [[ints a, .v (.int .i64 c), ints b]] = some (.row (d, 0) 3 0 (n + 1), [(id, none), ((d, 0), some (.row 3 (recRow encW [⟨a, c, b⟩])))]) := by
  subst hn
  rfl
/-- The code of spec.l5Fresh. -/
def k86 : Code1 :=
 (.seq
 (.region [] false ([]) [
 ⟨some 4,Op.assign (Operand.const (Value.slice none 0 0)),none⟩])
 (.seq
 (.region [8] false ([]) [
 ⟨some 8,Op.buildSlice 126 0 #[],none⟩,
 ⟨some 5,Op.assign (Operand.tmp 8),none⟩])
 (.seq
 (.seq
 (.region [] false ([]) [
 ⟨some 6,Op.assign (Operand.const (Value.int IntKind.i64 0)),none⟩])
 (.block 0
 (.loop
 (.seq
 (.seq
 (.region [] false ([]) [
 ⟨some 9,Op.move (Operand.tmp 6),none⟩,
 ⟨some 10,Op.move (Operand.tmp 0),none⟩,
 ⟨some 11,Op.call {callee:=Callee.builtin Builtin.len,args:=#[Operand.tmp 10],argTypes:=#[126]},none⟩,
 ⟨some 12,Op.binOp BinOp.lss 3 (Operand.tmp 9) (Operand.tmp 11) 3,none⟩])
 (.cond (Operand.tmp 12)
 .skip
 (.exit 0)))
 (.seq
 (.block 1
 (.seq
 (.region [21] false ([]) [
 ⟨some 15,Op.move (Operand.tmp 1),none⟩,
 ⟨some 16,Op.move (Operand.tmp 0),none⟩,
 ⟨some 17,Op.move (Operand.tmp 6),none⟩,
 ⟨some 18,Op.indexAddr 126 (Operand.tmp 16) (Operand.tmp 17),none⟩,
 ⟨some 19,Op.fieldAddr 125 (Operand.tmp 18) 2,none⟩,
 ⟨some 20,Op.load 22 (Operand.tmp 19),none⟩,
 ⟨some 21,Op.call {callee:=Callee.value (Operand.func 83),args:=#[Operand.tmp 15,Operand.tmp 20],argTypes:=#[126,22]},none⟩,
 ⟨some 7,Op.assign (Operand.tmp 21),none⟩])
 (.seq
 (.region [] true ([]) [
 ⟨some 22,Op.move (Operand.tmp 7),none⟩,
 ⟨some 23,Op.binOp BinOp.lss 3 (Operand.tmp 22) (Operand.const (Value.int IntKind.i64 0)) 3,none⟩,
 ⟨some 24,Op.move (Operand.tmp 23),none⟩,
 ⟨some 25,Op.move (Operand.tmp 0),some (24,false)⟩,
 ⟨some 26,Op.move (Operand.tmp 6),some (24,false)⟩,
 ⟨some 27,Op.indexAddr 126 (Operand.tmp 25) (Operand.tmp 26),some (24,false)⟩,
 ⟨some 28,Op.fieldAddr 125 (Operand.tmp 27) 1,some (24,false)⟩,
 ⟨some 29,Op.load 2 (Operand.tmp 28),some (24,false)⟩,
 ⟨some 30,Op.move (Operand.tmp 1),some (24,false)⟩,
 ⟨some 31,Op.move (Operand.tmp 7),some (24,false)⟩,
 ⟨some 32,Op.indexAddr 126 (Operand.tmp 30) (Operand.tmp 31),some (24,false)⟩,
 ⟨some 33,Op.fieldAddr 125 (Operand.tmp 32) 1,some (24,false)⟩,
 ⟨some 34,Op.load 2 (Operand.tmp 33),some (24,false)⟩,
 ⟨some 35,Op.binOp BinOp.lss 2 (Operand.tmp 29) (Operand.tmp 34) 2,some (24,false)⟩,
 ⟨some 36,Op.pick (Operand.tmp 24) (Operand.const (Value.bool true)) (Operand.tmp 35),none⟩])
 (.cond (Operand.tmp 36)
 (.region [42,43] false ([]) [
 ⟨some 37,Op.move (Operand.tmp 5),none⟩,
 ⟨some 38,Op.move (Operand.tmp 0),none⟩,
 ⟨some 39,Op.move (Operand.tmp 6),none⟩,
 ⟨some 40,Op.indexAddr 126 (Operand.tmp 38) (Operand.tmp 39),none⟩,
 ⟨some 41,Op.load 125 (Operand.tmp 40),none⟩,
 ⟨some 42,Op.buildSlice 126 1 #[(0,Operand.tmp 41)],none⟩,
 ⟨some 43,Op.call {callee:=Callee.builtin Builtin.append,args:=#[Operand.tmp 37,Operand.tmp 42],argTypes:=#[126,126]},none⟩,
 ⟨some 5,Op.assign (Operand.tmp 43),none⟩])
 .skip))))
 (.region [] false ([]) [
 ⟨some 13,Op.move (Operand.tmp 6),none⟩,
 ⟨some 14,Op.binOp BinOp.add 3 (Operand.tmp 13) (Operand.const (Value.int IntKind.i64 1)) 3,none⟩,
 ⟨some 6,Op.assign (Operand.tmp 14),none⟩]))))))
 (.seq
 (.region [] false ([]) [
 ⟨some 44,Op.move (Operand.tmp 5),none⟩,
 ⟨some 4,Op.assign (Operand.tmp 44),none⟩])
 .ret))))
set_option maxHeartbeats 0 in
theorem fresh_c {ws seen : List Wk} (hW : Wks ws) (hS : Wks seen) :
    CallsF Try.prog 86 [.val (recs encW ws), .mrow 3 (recRow encW seen)] (.own 3 (recRow encW (freshW ws seen))) [some (.mrow 3 (recRow encW seen))] := by
  have l1 := hW.len
  have l2 := hS.len
  refine callsF_of_wp2 (fn := Try.f86) (k := k86) (fun _ => []) mixed (by kernel_rfl) rfl (by kernel_rfl) (by kernel_rfl) (by kernel_rfl) rfl (by simp [Try.f86]) (by simp [Arg.like]) ?_
  generalize hst : St.enter [.val (recs encW ws), .mrow 3 (recRow encW seen)] = st0
  have t0 : st0.tm 0 = .t (recs encW ws) := by rw [← hst]; rfl
  have t1 : st0.tm 1 = .row (100001, 0) 3 0 ((recRow encW seen)).length := by rw [← hst]; rfl
  have o1 : st0.ob (100001, 0) = some (.row 3 (recRow encW seen)) := by rw [← hst]; rfl
  clear hst
  unfold k86
  repeat' (first
   | refine wp2_seq fun K hK => ?_
   | refine M_cons fun K hK => ?_
   | (refine hK _ ?_; clear hK K)
   | refine wp2_block ?_
   | refine wp2_region ?_
   | simp (maxSteps := 4000000) (disch := omega) [t0, t1, o1])
  have hJ : ∀ (id : Id) (s : St), id = (8, 0) ∨ id = (43, 0) → s.tm 5 = .row id 3 0 (freshW ws seen).length → s.ob id = some (.row 3 (recRow encW (freshW ws seen))) → s.ob (100001, 0) = some (.row 3 (recRow encW seen)) → K s := by
    rintro id s (rfl | rfl) s5 o o1
    · repeat' (first
     | refine wp2_seq fun K hK => ?_
     | refine M_cons fun K hK => ?_
     | (refine hK _ ?_; clear hK K)
     | refine wp2_region ?_
     | simp (maxSteps := 4000000) (disch := omega) [s5, o, o1])
      simp [Back, s5, o, o1]
      exact ⟨o1, by decide⟩
    · repeat' (first
     | refine wp2_seq fun K hK => ?_
     | refine M_cons fun K hK => ?_
     | (refine hK _ ?_; clear hK K)
     | refine wp2_region ?_
     | simp (maxSteps := 4000000) (disch := omega) [s5, o, o1])
      simp [Back, s5, o, o1]
      exact ⟨o1, by decide⟩
  clear hK
  refine wp2_loop (fun n s => ∃ (id : Id) (k : Nat), (id = (8, 0) ∨ id = (43, 0)) ∧ s.tm 0 = .t (recs encW ws) ∧ s.tm 1 = .row (100001, 0) 3 0 seen.length ∧ s.tm 5 = .row id 3 0 (freshW (ws.take k) seen).length ∧ s.ob id = some (.row 3 (recRow encW (freshW (ws.take k) seen))) ∧ s.ob (100001, 0) = some (.row 3 (recRow encW seen)) ∧ s.tm 6 = .t (.v (.int .i64 k)) ∧ k ≤ ws.length ∧ n = ws.length - k) ws.length ?_ ?_
  · refine ⟨(8, 0), 0, .inl rfl, ?_⟩
    simp [t0, t1, o1, freshW, recRow]
  · rintro n s ⟨id, k, hid, s0, s1, s5, o, o1, s6, hk, rfl⟩ K' hK'
    by_cases hlt : k < ws.length
    · have hb := hW.each k hlt
      have f1 := find_c (ws := seen) (key := (nth ws k).k) hS hb.2
      have fl := freshW_len ws seen k
      cases hf : isFresh seen (nth ws k) with
      | true =>
        have e1 := freshW_yes hlt hf
        have hc : fI seen (nth ws k).k = -1 ∨ ∃ i : Nat, fI seen (nth ws k).k = i ∧ i < seen.length ∧ (nth ws k).c < (nth seen i).c := by
          rcases fI_cases seen (nth ws k).k with e | ⟨i, e, hi⟩
          · exact .inl e
          · refine .inr ⟨i, e, hi, ?_⟩
            unfold isFresh at hf
            rw [e] at hf
            have : ¬ (i : Int) < 0 := by omega
            simpa [this] using hf
        rcases hid with rfl | rfl
        · rcases hc with e | ⟨i, e, hi, hc⟩
          · repeat' (first
           | refine wp2_seq fun K hK => ?_
           | refine M_cons fun K hK => ?_
           | (refine hK _ ?_; clear hK K)
           | (refine hX _ ?_; clear hX hY X Y)
           | refine wp2_block ?_
           | refine wp2_region ?_
           | refine wp2_cond fun X Y hX hY => ?_
           | (refine condK_of (fun c => ?_) (fun c => ?_) <;> (try simp [-List.length_eq_zero_iff] at c))
           | (refine callT_fl (f1) (by simp [St.args, St.arg, s0, s1, s5, o, o1, s6, hlt, e, encW] <;> first | rfl | ((repeat' first | rfl | apply And.intro); first | done | fail)) ?_)
           | simp (maxSteps := 4000000) (disch := omega) [s0, s1, s5, o, o1, s6, hlt, e, encW])
            all_goals first | omega | skip
            refine hK' (ws.length - (k + 1)) _ (by omega) ⟨(43, 0), k + 1, .inr rfl, ?_⟩
            simp [s0, s1, s6, o1, e1]
            omega
          · repeat' (first
           | refine wp2_seq fun K hK => ?_
           | refine M_cons fun K hK => ?_
           | (refine hK _ ?_; clear hK K)
           | (refine hX _ ?_; clear hX hY X Y)
           | refine wp2_block ?_
           | refine wp2_region ?_
           | refine wp2_cond fun X Y hX hY => ?_
           | (refine condK_of (fun c => ?_) (fun c => ?_) <;> (try simp [-List.length_eq_zero_iff] at c))
           | (refine guard1_or (fun c => ?_) (fun c => ?_) <;> (have cc := c) <;> (try simp [-List.length_eq_zero_iff] at cc) <;> (try simp (disch := omega) [s0, s1, s5, o, o1, s6, hlt, e, hi, hc, encW, c]))
           | (refine callT_fl (f1) (by simp [St.args, St.arg, s0, s1, s5, o, o1, s6, hlt, e, hi, hc, encW] <;> first | rfl | ((repeat' first | rfl | apply And.intro); first | done | fail)) ?_)
           | simp (maxSteps := 4000000) (disch := omega) [s0, s1, s5, o, o1, s6, hlt, e, hi, hc, encW])
            all_goals first | omega | skip
            refine hK' (ws.length - (k + 1)) _ (by omega) ⟨(43, 0), k + 1, .inr rfl, ?_⟩
            simp [s0, s1, s6, o1, e1]
            omega
        · rcases hc with e | ⟨i, e, hi, hc⟩
          · repeat' (first
           | refine wp2_seq fun K hK => ?_
           | refine M_cons fun K hK => ?_
           | (refine hK _ ?_; clear hK K)
           | (refine hX _ ?_; clear hX hY X Y)
           | refine wp2_block ?_
           | refine wp2_rename (mk := [42, 43]) 43 60043 (by decide) ?_
           | refine wp2_region ?_
           | refine wp2_cond fun X Y hX hY => ?_
           | (refine condK_of (fun c => ?_) (fun c => ?_) <;> (try simp [-List.length_eq_zero_iff] at c))
           | (refine callT_fl (f1) (by simp [St.args, St.arg, s0, s1, s5, o, o1, s6, hlt, e, encW] <;> first | rfl | ((repeat' first | rfl | apply And.intro); first | done | fail)) ?_)
           | simp (maxSteps := 4000000) (disch := omega) [s0, s1, s5, o, o1, s6, hlt, e, encW])
            all_goals first | omega | skip
            refine hK' (ws.length - (k + 1)) _ (by omega) ⟨(43, 0), k + 1, .inr rfl, ?_⟩
            simp [s0, s1, s6, o1, e1]
            omega
          · repeat' (first
           | refine wp2_seq fun K hK => ?_
           | refine M_cons fun K hK => ?_
           | (refine hK _ ?_; clear hK K)
           | (refine hX _ ?_; clear hX hY X Y)
           | refine wp2_block ?_
           | refine wp2_rename (mk := [42, 43]) 43 60043 (by decide) ?_
           | refine wp2_region ?_
           | refine wp2_cond fun X Y hX hY => ?_
           | (refine condK_of (fun c => ?_) (fun c => ?_) <;> (try simp [-List.length_eq_zero_iff] at c))
           | (refine guard1_or (fun c => ?_) (fun c => ?_) <;> (have cc := c) <;> (try simp [-List.length_eq_zero_iff] at cc) <;> (try simp (disch := omega) [s0, s1, s5, o, o1, s6, hlt, e, hi, hc, encW, c]))
           | (refine callT_fl (f1) (by simp [St.args, St.arg, s0, s1, s5, o, o1, s6, hlt, e, hi, hc, encW] <;> first | rfl | ((repeat' first | rfl | apply And.intro); first | done | fail)) ?_)
           | simp (maxSteps := 4000000) (disch := omega) [s0, s1, s5, o, o1, s6, hlt, e, hi, hc, encW])
            all_goals first | omega | skip
            refine hK' (ws.length - (k + 1)) _ (by omega) ⟨(43, 0), k + 1, .inr rfl, ?_⟩
            simp [s0, s1, s6, o1, e1]
            omega
      | false =>
        have e1 := freshW_no hlt hf
        obtain ⟨i, e, hi, hc⟩ : ∃ i : Nat, fI seen (nth ws k).k = i ∧ i < seen.length ∧ ¬ (nth ws k).c < (nth seen i).c := by
          unfold isFresh at hf
          rcases fI_cases seen (nth ws k).k with e | ⟨i, e, hi⟩
          · rw [e] at hf
            simp at hf
          · refine ⟨i, e, hi, ?_⟩
            rw [e] at hf
            simpa using hf
        rcases hid with rfl | rfl
        · repeat' (first
         | refine wp2_seq fun K hK => ?_
         | refine M_cons fun K hK => ?_
         | (refine hK _ ?_; clear hK K)
         | (refine hX _ ?_; clear hX hY X Y)
         | (refine hY _ ?_; clear hX hY X Y)
         | refine wp2_block ?_
         | refine wp2_region ?_
         | refine wp2_cond fun X Y hX hY => ?_
         | (refine condK_of (fun c => ?_) (fun c => ?_) <;> (try simp [-List.length_eq_zero_iff] at c))
         | (refine guard1_or (fun c => ?_) (fun c => ?_) <;> (have cc := c) <;> (try simp [-List.length_eq_zero_iff] at cc) <;> (try simp (disch := omega) [s0, s1, s5, o, o1, s6, hlt, e, hi, hc, encW, c]))
         | (refine callT_fl (f1) (by simp [St.args, St.arg, s0, s1, s5, o, o1, s6, hlt, e, hi, hc, encW] <;> first | rfl | ((repeat' first | rfl | apply And.intro); first | done | fail)) ?_)
         | simp (maxSteps := 4000000) (disch := omega) [s0, s1, s5, o, o1, s6, hlt, e, hi, hc, encW])
          all_goals first | omega | skip
          refine hK' (ws.length - (k + 1)) _ (by omega) ⟨(8, 0), k + 1, .inl rfl, ?_⟩
          simp [s0, s1, s5, o, s6, o1, e1]
          omega
        · repeat' (first
         | refine wp2_seq fun K hK => ?_
         | refine M_cons fun K hK => ?_
         | (refine hK _ ?_; clear hK K)
         | (refine hX _ ?_; clear hX hY X Y)
         | (refine hY _ ?_; clear hX hY X Y)
         | refine wp2_block ?_
         | refine wp2_region ?_
         | refine wp2_cond fun X Y hX hY => ?_
         | (refine condK_of (fun c => ?_) (fun c => ?_) <;> (try simp [-List.length_eq_zero_iff] at c))
         | (refine guard1_or (fun c => ?_) (fun c => ?_) <;> (have cc := c) <;> (try simp [-List.length_eq_zero_iff] at cc) <;> (try simp (disch := omega) [s0, s1, s5, o, o1, s6, hlt, e, hi, hc, encW, c]))
         | (refine callT_fl (f1) (by simp [St.args, St.arg, s0, s1, s5, o, o1, s6, hlt, e, hi, hc, encW] <;> first | rfl | ((repeat' first | rfl | apply And.intro); first | done | fail)) ?_)
         | simp (maxSteps := 4000000) (disch := omega) [s0, s1, s5, o, o1, s6, hlt, e, hi, hc, encW])
          all_goals first | omega | skip
          refine hK' (ws.length - (k + 1)) _ (by omega) ⟨(43, 0), k + 1, .inr rfl, ?_⟩
          simp [s0, s1, s5, o, s6, o1, e1]
          omega
    · have hkl : k = ws.length := by omega
      subst hkl
      rw [List.take_length] at s5 o
      repeat' (first
       | refine wp2_seq fun K hK => ?_
       | refine M_cons fun K hK => ?_
       | (refine hK _ ?_; clear hK K)
       | (refine hY _ ?_; clear hX hY X Y)
       | refine wp2_region ?_
       | refine wp2_cond fun X Y hX hY => ?_
       | (refine condK_of (fun c => ?_) (fun c => ?_) <;> (try simp [-List.length_eq_zero_iff] at c))
       | simp (maxSteps := 4000000) (disch := omega) [s0, s1, s5, o, o1, s6])
      all_goals first | omega | skip
      exact hJ id _ hid (by simp [s5]) (by simp [o]) (by simp [o1])
def seeStep (s : List Wk) (w : Wk) : List Wk := if fI s w.k < 0 then s ++ [w] else s.set (fI s w.k).toNat w
def seeW (seen fresh : List Wk) : List Wk := fresh.foldl seeStep seen
theorem seeW_take {seen fresh : List Wk} {k : Nat} (h : k < fresh.length) : seeW seen (fresh.take (k + 1)) = seeStep (seeW seen (fresh.take k)) (nth fresh k) := by
  unfold seeW
  rw [take_nth h, List.foldl_append]
  rfl
theorem mem_seeStep {s : List Wk} {w x : Wk} (h : x ∈ seeStep s w) : x ∈ s ∨ x = w := by
  unfold seeStep at h
  split at h
  · simpa using h
  · rcases List.mem_or_eq_of_mem_set h with h | h
    · exact .inl h
    · exact .inr h
theorem mem_seeW : ∀ {fresh seen : List Wk} {x : Wk}, x ∈ seeW seen fresh → x ∈ seen ∨ x ∈ fresh
  | [], seen, x, h => .inl h
  | w :: l, seen, x, h => by
    rcases mem_seeW (fresh := l) (seen := seeStep seen w) h with h | h
    · rcases mem_seeStep h with h | h
      · exact .inl h
      · exact .inr (by simp [h])
    · exact .inr (by simp [h])
theorem seeStep_len (s : List Wk) (w : Wk) : (seeStep s w).length ≤ s.length + 1 := by
  unfold seeStep
  split <;> simp
theorem seeW_len : ∀ (fresh seen : List Wk), (seeW seen fresh).length ≤ seen.length + fresh.length
  | [], seen => Nat.le_refl _
  | w :: l, seen => by
    have h1 := seeW_len l (seeStep seen w)
    have h2 := seeStep_len seen w
    simp only [List.length_cons]
    unfold seeW at *
    rw [List.foldl_cons]
    omega
theorem Wks.mem {ws : List Wk} (h : Wks ws) {x : Wk} (hx : x ∈ ws) : x.e.length ≤ 1000000 ∧ x.k.length ≤ 1000000 := by
  obtain ⟨i, hi, rfl⟩ := mem_nth.1 hx
  exact h.each i hi
theorem Wks.of {ws : List Wk} (h1 : ws.length ≤ 1000000) (h2 : ∀ x ∈ ws, x.e.length ≤ 1000000 ∧ x.k.length ≤ 1000000) : Wks ws :=
  ⟨h1, fun i hi => h2 _ (mem_nth.2 ⟨i, hi, rfl⟩)⟩
theorem Wks.see {seen fresh : List Wk} (hS : Wks seen) (hF : Wks fresh) (hl : seen.length + fresh.length ≤ 1000000) (k : Nat) : Wks (seeW seen (fresh.take k)) := by
  refine .of ?_ fun x hx => ?_
  · have := seeW_len (fresh.take k) seen
    rw [List.length_take] at this
    omega
  · rcases mem_seeW hx with h | h
    · exact hS.mem h
    · exact hF.mem (List.mem_of_mem_take h)
/-- The code of spec.l5See. -/
def k81 : Code1 :=
 (.seq
 (.region [] false ([]) [
 ⟨some 4,Op.assign (Operand.const (Value.slice none 0 0)),none⟩])
 (.seq
 (.seq
 (.region [] false ([]) [
 ⟨some 5,Op.assign (Operand.const (Value.int IntKind.i64 0)),none⟩])
 (.block 0
 (.loop
 (.seq
 (.seq
 (.region [] false ([]) [
 ⟨some 7,Op.move (Operand.tmp 5),none⟩,
 ⟨some 8,Op.move (Operand.tmp 1),none⟩,
 ⟨some 9,Op.call {callee:=Callee.builtin Builtin.len,args:=#[Operand.tmp 8],argTypes:=#[126]},none⟩,
 ⟨some 10,Op.binOp BinOp.lss 3 (Operand.tmp 7) (Operand.tmp 9) 3,none⟩])
 (.cond (Operand.tmp 10)
 .skip
 (.exit 0)))
 (.seq
 (.block 1
 (.seq
 (.region [19] false ([]) [
 ⟨some 13,Op.move (Operand.tmp 0),none⟩,
 ⟨some 14,Op.move (Operand.tmp 1),none⟩,
 ⟨some 15,Op.move (Operand.tmp 5),none⟩,
 ⟨some 16,Op.indexAddr 126 (Operand.tmp 14) (Operand.tmp 15),none⟩,
 ⟨some 17,Op.fieldAddr 125 (Operand.tmp 16) 2,none⟩,
 ⟨some 18,Op.load 22 (Operand.tmp 17),none⟩,
 ⟨some 19,Op.call {callee:=Callee.value (Operand.func 83),args:=#[Operand.tmp 13,Operand.tmp 18],argTypes:=#[126,22]},none⟩,
 ⟨some 6,Op.assign (Operand.tmp 19),none⟩])
 (.seq
 (.region [] false ([]) [
 ⟨some 20,Op.move (Operand.tmp 6),none⟩,
 ⟨some 21,Op.binOp BinOp.lss 3 (Operand.tmp 20) (Operand.const (Value.int IntKind.i64 0)) 3,none⟩])
 (.cond (Operand.tmp 21)
 (.region [27,28] false ([]) [
 ⟨some 22,Op.move (Operand.tmp 0),none⟩,
 ⟨some 23,Op.move (Operand.tmp 1),none⟩,
 ⟨some 24,Op.move (Operand.tmp 5),none⟩,
 ⟨some 25,Op.indexAddr 126 (Operand.tmp 23) (Operand.tmp 24),none⟩,
 ⟨some 26,Op.load 125 (Operand.tmp 25),none⟩,
 ⟨some 27,Op.buildSlice 126 1 #[(0,Operand.tmp 26)],none⟩,
 ⟨some 28,Op.call {callee:=Callee.builtin Builtin.append,args:=#[Operand.tmp 22,Operand.tmp 27],argTypes:=#[126,126]},none⟩,
 ⟨some 0,Op.assign (Operand.tmp 28),none⟩])
 (.region [] false ([]) [
 ⟨some 29,Op.move (Operand.tmp 0),none⟩,
 ⟨some 30,Op.move (Operand.tmp 6),none⟩,
 ⟨some 31,Op.move (Operand.tmp 1),none⟩,
 ⟨some 32,Op.move (Operand.tmp 5),none⟩,
 ⟨some 33,Op.indexAddr 126 (Operand.tmp 31) (Operand.tmp 32),none⟩,
 ⟨some 34,Op.load 125 (Operand.tmp 33),none⟩,
 ⟨some 35,Op.indexAddr 126 (Operand.tmp 29) (Operand.tmp 30),none⟩,
 ⟨none,Op.store 125 (Operand.tmp 35) (Operand.tmp 34),none⟩])))))
 (.region [] false ([]) [
 ⟨some 11,Op.move (Operand.tmp 5),none⟩,
 ⟨some 12,Op.binOp BinOp.add 3 (Operand.tmp 11) (Operand.const (Value.int IntKind.i64 1)) 3,none⟩,
 ⟨some 5,Op.assign (Operand.tmp 12),none⟩]))))))
 (.seq
 (.region [] false ([]) [
 ⟨some 36,Op.move (Operand.tmp 0),none⟩,
 ⟨some 4,Op.assign (Operand.tmp 36),none⟩])
 .ret)))
set_option maxHeartbeats 0 in
theorem see_c {seen fresh : List Wk} (hS : Wks seen) (hF : Wks fresh) (hl : seen.length + fresh.length ≤ 1000000) :
    CallsF Try.prog 81 [.mrow 3 (recRow encW seen), .val (recs encW fresh)] (.own 3 (recRow encW (seeW seen fresh))) [none] := by
  have l1 := hS.len
  have l2 := hF.len
  refine callsF_of_wp2 (fn := Try.f81) (k := k81) (fun _ => []) mixed (by kernel_rfl) rfl (by kernel_rfl) (by kernel_rfl) (by kernel_rfl) rfl (by simp [Try.f81]) (by simp [Arg.like]) ?_
  generalize hst : St.enter [.mrow 3 (recRow encW seen), .val (recs encW fresh)] = st0
  have t0 : st0.tm 0 = .row (100000, 0) 3 0 ((recRow encW seen)).length := by rw [← hst]; rfl
  have o0 : st0.ob (100000, 0) = some (.row 3 (recRow encW seen)) := by rw [← hst]; rfl
  have t1 : st0.tm 1 = .t (recs encW fresh) := by rw [← hst]; rfl
  clear hst
  unfold k81
  repeat' (first
   | refine wp2_seq fun K hK => ?_
   | refine M_cons fun K hK => ?_
   | (refine hK _ ?_; clear hK K)
   | refine wp2_block ?_
   | refine wp2_region ?_
   | simp (maxSteps := 4000000) (disch := omega) [t0, t1, o0])
  have hJ : ∀ (id : Id) (s : St), id = (100000, 0) ∨ id = (28, 0) → s.tm 0 = .row id 3 0 (seeW seen fresh).length → s.ob id = some (.row 3 (recRow encW (seeW seen fresh))) → K s := by
    rintro id s (rfl | rfl) s0 o
    · repeat' (first
     | refine wp2_seq fun K hK => ?_
     | refine M_cons fun K hK => ?_
     | (refine hK _ ?_; clear hK K)
     | refine wp2_region ?_
     | simp (maxSteps := 4000000) (disch := omega) [s0, o])
      all_goals try (simp [s0, o, Back]; done)
    · repeat' (first
     | refine wp2_seq fun K hK => ?_
     | refine M_cons fun K hK => ?_
     | (refine hK _ ?_; clear hK K)
     | refine wp2_region ?_
     | simp (maxSteps := 4000000) (disch := omega) [s0, o])
      all_goals try (simp [s0, o, Back]; done)
  clear hK
  refine wp2_loop (fun n s => ∃ (id : Id) (k : Nat), (id = (100000, 0) ∨ id = (28, 0)) ∧ s.tm 1 = .t (recs encW fresh) ∧ s.tm 0 = .row id 3 0 (seeW seen (fresh.take k)).length ∧ s.ob id = some (.row 3 (recRow encW (seeW seen (fresh.take k)))) ∧ s.tm 5 = .t (.v (.int .i64 k)) ∧ k ≤ fresh.length ∧ n = fresh.length - k) fresh.length ?_ ?_
  · refine ⟨(100000, 0), 0, .inl rfl, ?_⟩
    simp [t0, t1, o0, seeW]
  · rintro n s ⟨id, k, hid, s1, s0, o, s5, hk, rfl⟩ K' hK'
    by_cases hlt : k < fresh.length
    · have hb := hF.each k hlt
      have hWk := hS.see hF hl k
      have hlk := seeW_len (fresh.take k) seen
      rw [List.length_take] at hlk
      have f1 := find_c (key := (nth fresh k).k) hWk hb.2
      have e1 := seeW_take (seen := seen) hlt
      generalize hU : seeW seen (fresh.take k) = U at *
      rcases fI_cases U (nth fresh k).k with e | ⟨i, e, hi⟩
      · have e2 : seeStep U (nth fresh k) = U ++ [nth fresh k] := by unfold seeStep; rw [e]; rfl
        rcases hid with rfl | rfl
        · repeat' (first
         | refine wp2_seq fun K hK => ?_
         | refine M_cons fun K hK => ?_
         | (refine hK _ ?_; clear hK K)
         | (refine hX _ ?_; clear hX hY X Y)
         | refine wp2_block ?_
         | refine wp2_region ?_
         | refine wp2_cond fun X Y hX hY => ?_
         | (refine condK_of (fun c => ?_) (fun c => ?_) <;> (try simp [-List.length_eq_zero_iff] at c))
         | (refine callT_fl (f1) (by simp [St.args, St.arg, s0, s1, o, s5, hlt, e, encW] <;> first | rfl | ((repeat' first | rfl | apply And.intro); first | done | fail)) ?_)
         | simp (maxSteps := 4000000) (disch := omega) [s0, s1, o, s5, hlt, e, encW])
          all_goals first | omega | skip
          refine hK' (fresh.length - (k + 1)) _ (by omega) ⟨(28, 0), k + 1, .inr rfl, ?_⟩
          simp [s1, e1, e2]
          omega
        · repeat' (first
         | refine wp2_seq fun K hK => ?_
         | refine M_cons fun K hK => ?_
         | (refine hK _ ?_; clear hK K)
         | (refine hX _ ?_; clear hX hY X Y)
         | refine wp2_block ?_
         | refine wp2_rename (mk := [27, 28]) 28 60028 (by decide) ?_
         | refine wp2_region ?_
         | refine wp2_cond fun X Y hX hY => ?_
         | (refine condK_of (fun c => ?_) (fun c => ?_) <;> (try simp [-List.length_eq_zero_iff] at c))
         | (refine callT_fl (f1) (by simp [St.args, St.arg, s0, s1, o, s5, hlt, e, encW] <;> first | rfl | ((repeat' first | rfl | apply And.intro); first | done | fail)) ?_)
         | simp (maxSteps := 4000000) (disch := omega) [s0, s1, o, s5, hlt, e, encW])
          all_goals first | omega | skip
          refine hK' (fresh.length - (k + 1)) _ (by omega) ⟨(28, 0), k + 1, .inr rfl, ?_⟩
          simp [s1, e1, e2]
          omega
      · have e2 : seeStep U (nth fresh k) = U.set i (nth fresh k) := by unfold seeStep; rw [e, if_neg (by omega), Int.toNat_natCast]
        have q1 : (recRow encW U).set i [ints (nth fresh k).e, .v (.int .i64 (nth fresh k).c), ints (nth fresh k).k] = recRow encW (U.set i (nth fresh k)) := by simp [recRow, encW, List.map_set]
        rcases hid with rfl | rfl
        · repeat' (first
         | refine wp2_seq fun K hK => ?_
         | refine M_cons fun K hK => ?_
         | (refine hK _ ?_; clear hK K)
         | (refine hX _ ?_; clear hX hY X Y)
         | (refine hY _ ?_; clear hX hY X Y)
         | refine wp2_block ?_
         | refine wp2_region ?_
         | refine wp2_cond fun X Y hX hY => ?_
         | (refine condK_of (fun c => ?_) (fun c => ?_) <;> (try simp [-List.length_eq_zero_iff] at c))
         | (refine callT_fl (f1) (by simp [St.args, St.arg, s0, s1, o, s5, hlt, e, hi, q1, encW] <;> first | rfl | ((repeat' first | rfl | apply And.intro); first | done | fail)) ?_)
         | simp (maxSteps := 4000000) (disch := omega) [s0, s1, o, s5, hlt, e, hi, q1, encW])
          all_goals first | omega | skip
          refine hK' (fresh.length - (k + 1)) _ (by omega) ⟨(100000, 0), k + 1, .inl rfl, ?_⟩
          simp [s0, s1, e1, e2]
          omega
        · repeat' (first
         | refine wp2_seq fun K hK => ?_
         | refine M_cons fun K hK => ?_
         | (refine hK _ ?_; clear hK K)
         | (refine hX _ ?_; clear hX hY X Y)
         | (refine hY _ ?_; clear hX hY X Y)
         | refine wp2_block ?_
         | refine wp2_region ?_
         | refine wp2_cond fun X Y hX hY => ?_
         | (refine condK_of (fun c => ?_) (fun c => ?_) <;> (try simp [-List.length_eq_zero_iff] at c))
         | (refine callT_fl (f1) (by simp [St.args, St.arg, s0, s1, o, s5, hlt, e, hi, q1, encW] <;> first | rfl | ((repeat' first | rfl | apply And.intro); first | done | fail)) ?_)
         | simp (maxSteps := 4000000) (disch := omega) [s0, s1, o, s5, hlt, e, hi, q1, encW])
          all_goals first | omega | skip
          refine hK' (fresh.length - (k + 1)) _ (by omega) ⟨(28, 0), k + 1, .inr rfl, ?_⟩
          simp [s0, s1, e1, e2]
          omega
    · have hkl : k = fresh.length := by omega
      subst hkl
      rw [List.take_length] at s0 o
      repeat' (first
       | refine wp2_seq fun K hK => ?_
       | refine M_cons fun K hK => ?_
       | (refine hK _ ?_; clear hK K)
       | (refine hY _ ?_; clear hX hY X Y)
       | refine wp2_region ?_
       | refine wp2_cond fun X Y hX hY => ?_
       | (refine condK_of (fun c => ?_) (fun c => ?_) <;> (try simp [-List.length_eq_zero_iff] at c))
       | simp (maxSteps := 4000000) (disch := omega) [s0, s1, o, s5])
      all_goals first | omega | skip
      exact hJ id _ hid (by simp [s0]) (by simp [o])
end Cal

/- spec.l5Best. -/
set_option linter.unusedSimpArgs false
set_option linter.unusedVariables false
namespace Cal
open Go Go.Proofs
set_option maxRecDepth 100000
/-- A route as it is found: its cost and edges; or none yet. -/
abbrev Rt := Option (Int × List Int)
def encRt : Rt → List T
  | none => [.v (.int .i64 1), .v (.int .i64 0), .v (.slice none 0 0)]
  | some (c, e) => [.v (.int .i64 0), .v (.int .i64 c), ints e]
def winsB (old : Rt) (w : Wk) : Bool :=
  match old with
  | none => true
  | some (c, e) => decide (w.c < c) || (decide (w.c = c) && Short.before w.e e)
def bestStep (t : Int) (old : Rt) (w : Wk) : Rt := if rd w.e ((w.e.length : Int) - 1) = t ∧ winsB old w = true then some (w.c, w.e) else old
def bestW (old : Rt) (ws : List Wk) (t : Int) : Rt := ws.foldl (bestStep t) old
theorem bestW_take {old : Rt} {ws : List Wk} {t : Int} {k : Nat} (h : k < ws.length) : bestW old (ws.take (k + 1)) t = bestStep t (bestW old (ws.take k) t) (nth ws k) := by
  unfold bestW
  rw [take_nth h, List.foldl_append]
  rfl
theorem bestW_len {ws : List Wk} (hW : Wks ws) {t : Int} : ∀ {old : Rt}, (∀ c e, old = some (c, e) → e.length ≤ 1000000) → ∀ k, k ≤ ws.length → ∀ c e, bestW old (ws.take k) t = some (c, e) → e.length ≤ 1000000 := by
  intro old ho k
  induction k with
  | zero => intro _ c e h; exact ho c e (by simpa [bestW] using h)
  | succ k ih =>
    intro hk c e h
    rw [bestW_take (by omega)] at h
    unfold bestStep at h
    split at h
    · cases h
      exact (hW.each k (by omega)).1
    · exact ih (by omega) c e h
/-- The code of spec.l5Best. -/
def k82 : Code1 :=
 (.seq
 (.region [3,6] false ([]) [
 ⟨some 3,Op.box 48 (Operand.tmp 0),none⟩,
 ⟨some 6,Op.alloc 48,none⟩])
 (.seq
 (.seq
 (.region [] false ([]) [
 ⟨some 7,Op.assign (Operand.const (Value.int IntKind.i64 0)),none⟩])
 (.block 0
 (.loop
 (.seq
 (.seq
 (.region [] false ([]) [
 ⟨some 10,Op.move (Operand.tmp 7),none⟩,
 ⟨some 11,Op.move (Operand.tmp 1),none⟩,
 ⟨some 12,Op.call {callee:=Callee.builtin Builtin.len,args:=#[Operand.tmp 11],argTypes:=#[126]},none⟩,
 ⟨some 13,Op.binOp BinOp.lss 3 (Operand.tmp 10) (Operand.tmp 12) 3,none⟩])
 (.cond (Operand.tmp 13)
 .skip
 (.exit 0)))
 (.seq
 (.block 1
 (.seq
 (.region [8] false ([]) [
 ⟨some 16,Op.move (Operand.tmp 1),none⟩,
 ⟨some 17,Op.move (Operand.tmp 7),none⟩,
 ⟨some 18,Op.indexAddr 126 (Operand.tmp 16) (Operand.tmp 17),none⟩,
 ⟨some 19,Op.load 125 (Operand.tmp 18),none⟩,
 ⟨some 8,Op.alloc 125,none⟩,
 ⟨none,Op.store 125 (Operand.tmp 8) (Operand.tmp 19),none⟩])
 (.seq
 (.seq
 (.region [] false ([]) [
 ⟨some 20,Op.fieldAddr 125 (Operand.tmp 8) 0,none⟩,
 ⟨some 21,Op.load 22 (Operand.tmp 20),none⟩,
 ⟨some 22,Op.fieldAddr 125 (Operand.tmp 8) 0,none⟩,
 ⟨some 23,Op.load 22 (Operand.tmp 22),none⟩,
 ⟨some 24,Op.call {callee:=Callee.builtin Builtin.len,args:=#[Operand.tmp 23],argTypes:=#[22]},none⟩,
 ⟨some 25,Op.binOp BinOp.sub 3 (Operand.tmp 24) (Operand.const (Value.int IntKind.i64 1)) 3,none⟩,
 ⟨some 26,Op.indexAddr 22 (Operand.tmp 21) (Operand.tmp 25),none⟩,
 ⟨some 27,Op.load 2 (Operand.tmp 26),none⟩,
 ⟨some 28,Op.move (Operand.tmp 2),none⟩,
 ⟨some 29,Op.binOp BinOp.neq 2 (Operand.tmp 27) (Operand.tmp 28) 2,none⟩])
 (.cond (Operand.tmp 29)
 (.exit 1)
 .skip))
 (.seq
 (.region [] false ([]) [
 ⟨some 30,Op.fieldAddr 48 (Operand.tmp 3) 0,none⟩,
 ⟨some 31,Op.load 2 (Operand.tmp 30),none⟩,
 ⟨some 32,Op.binOp BinOp.neq 2 (Operand.tmp 31) (Operand.const (Value.int IntKind.i64 0)) 2,none⟩,
 ⟨some 33,Op.move (Operand.tmp 32),none⟩,
 ⟨some 34,Op.fieldAddr 125 (Operand.tmp 8) 1,some (33,false)⟩,
 ⟨some 35,Op.load 2 (Operand.tmp 34),some (33,false)⟩,
 ⟨some 36,Op.fieldAddr 48 (Operand.tmp 3) 1,some (33,false)⟩,
 ⟨some 37,Op.load 2 (Operand.tmp 36),some (33,false)⟩,
 ⟨some 38,Op.binOp BinOp.lss 2 (Operand.tmp 35) (Operand.tmp 37) 2,some (33,false)⟩,
 ⟨some 39,Op.pick (Operand.tmp 33) (Operand.const (Value.bool true)) (Operand.tmp 38),none⟩,
 ⟨some 9,Op.assign (Operand.tmp 39),none⟩])
 (.seq
 (.seq
 (.region [55] false ([]) [
 ⟨some 40,Op.fieldAddr 48 (Operand.tmp 3) 0,none⟩,
 ⟨some 41,Op.load 2 (Operand.tmp 40),none⟩,
 ⟨some 42,Op.binOp BinOp.eql 2 (Operand.tmp 41) (Operand.const (Value.int IntKind.i64 0)) 2,none⟩,
 ⟨some 43,Op.move (Operand.tmp 42),none⟩,
 ⟨some 44,Op.fieldAddr 125 (Operand.tmp 8) 1,some (43,true)⟩,
 ⟨some 45,Op.load 2 (Operand.tmp 44),some (43,true)⟩,
 ⟨some 46,Op.fieldAddr 48 (Operand.tmp 3) 1,some (43,true)⟩,
 ⟨some 47,Op.load 2 (Operand.tmp 46),some (43,true)⟩,
 ⟨some 48,Op.binOp BinOp.eql 2 (Operand.tmp 45) (Operand.tmp 47) 2,some (43,true)⟩,
 ⟨some 49,Op.pick (Operand.tmp 43) (Operand.tmp 48) (Operand.const (Value.bool false)),none⟩,
 ⟨some 50,Op.move (Operand.tmp 49),none⟩,
 ⟨some 51,Op.fieldAddr 125 (Operand.tmp 8) 0,some (50,true)⟩,
 ⟨some 52,Op.load 22 (Operand.tmp 51),some (50,true)⟩,
 ⟨some 53,Op.fieldAddr 48 (Operand.tmp 3) 2,some (50,true)⟩,
 ⟨some 54,Op.load 22 (Operand.tmp 53),some (50,true)⟩,
 ⟨some 55,Op.call {callee:=Callee.value (Operand.func 145),args:=#[Operand.tmp 52,Operand.tmp 54],argTypes:=#[22,22]},some (50,true)⟩,
 ⟨some 56,Op.pick (Operand.tmp 50) (Operand.tmp 55) (Operand.const (Value.bool false)),none⟩])
 (.cond (Operand.tmp 56)
 (.region [] false ([]) [
 ⟨some 9,Op.assign (Operand.const (Value.bool true)),none⟩])
 .skip))
 (.seq
 (.region [] false ([]) [
 ⟨some 57,Op.move (Operand.tmp 9),none⟩])
 (.cond (Operand.tmp 57)
 (.region [] false ([]) [
 ⟨some 58,Op.fieldAddr 125 (Operand.tmp 8) 1,none⟩,
 ⟨some 59,Op.load 2 (Operand.tmp 58),none⟩,
 ⟨some 60,Op.fieldAddr 125 (Operand.tmp 8) 0,none⟩,
 ⟨some 61,Op.load 22 (Operand.tmp 60),none⟩,
 ⟨some 62,Op.build 48 #[(1,Operand.tmp 59),(2,Operand.tmp 61)],none⟩,
 ⟨none,Op.store 48 (Operand.tmp 3) (Operand.tmp 62),none⟩])
 .skip)))))))
 (.region [] false ([]) [
 ⟨some 14,Op.move (Operand.tmp 7),none⟩,
 ⟨some 15,Op.binOp BinOp.add 3 (Operand.tmp 14) (Operand.const (Value.int IntKind.i64 1)) 3,none⟩,
 ⟨some 7,Op.assign (Operand.tmp 15),none⟩]))))))
 (.seq
 (.region [] false ([]) [
 ⟨some 63,Op.load 48 (Operand.tmp 3),none⟩,
 ⟨none,Op.store 48 (Operand.tmp 6) (Operand.tmp 63),none⟩])
 .ret)))
set_option maxHeartbeats 0 in
theorem best_c {old : Rt} {ws : List Wk} (t : Int) (hW : Wks ws) (ho : ∀ c e, old = some (c, e) → e.length ≤ 1000000) (hn : ∀ i : Nat, i < ws.length → 0 < (nth ws i).e.length) :
    CallsF Try.prog 82 [.agg (encRt old), .val (recs encW ws), .val (.v (.int .i64 t))] (.agg ((encRt (bestW old ws t)).map .t)) [] := by
  have l1 := hW.len
  refine callsF_of_wp2 (fn := Try.f82) (k := k82) (fun _ => []) mixed (by kernel_rfl) rfl (by kernel_rfl) (by kernel_rfl) (by kernel_rfl) rfl (by simp [Try.f82]) (by simp [Arg.like]) ?_
  generalize hst : St.enter [.agg (encRt old), .val (recs encW ws), .val (.v (.int .i64 t))] = st0
  have t0 : st0.tm 0 = .agg ((encRt old) |>.map .t) := by rw [← hst]; rfl
  have t1 : st0.tm 1 = .t (recs encW ws) := by rw [← hst]; rfl
  have t2 : st0.tm 2 = .t (.v (.int .i64 t)) := by rw [← hst]; rfl
  clear hst
  unfold k82
  have hl : (encRt old).length = 3 := by cases old <;> rfl
  repeat' (first
   | refine wp2_seq fun K hK => ?_
   | refine M_cons fun K hK => ?_
   | (refine hK _ ?_; clear hK K)
   | refine wp2_block ?_
   | refine wp2_region ?_
   | simp (maxSteps := 4000000) (disch := omega) [t0, t1, t2, hl])
  have hJ : ∀ s : St, s.tm 3 = .ptr (3, 0) 0 0 → s.tm 6 = .ptr (6, 0) 0 0 → s.ob (3, 0) = some (.var ((encRt (bestW old ws t)).map .t)) → s.ob (6, 0) = some (.var [.t (.v (.int .i64 0)), .t (.v (.int .i64 0)), .t (.v (.slice none 0 0))]) → K s := by
    intro s s3 s6 o3 o6
    have hl : (encRt (bestW old ws t)).length = 3 := by cases bestW old ws t <;> rfl
    cases hb : bestW old ws t with
    | none =>
      rw [hb] at o3
      simp [encRt] at o3
      repeat' (first
       | refine wp2_seq fun K hK => ?_
       | refine M_cons fun K hK => ?_
       | (refine hK _ ?_; clear hK K)
       | refine wp2_region ?_
       | simp (maxSteps := 4000000) (disch := omega) [s3, s6, o3, o6])
      all_goals simp [Back, encRt, s3, s6, o3, o6, hb]
    | some p =>
      obtain ⟨c, e⟩ := p
      rw [hb] at o3
      simp [encRt] at o3
      repeat' (first
       | refine wp2_seq fun K hK => ?_
       | refine M_cons fun K hK => ?_
       | (refine hK _ ?_; clear hK K)
       | refine wp2_region ?_
       | simp (maxSteps := 4000000) (disch := omega) [s3, s6, o3, o6])
      all_goals simp [Back, encRt, s3, s6, o3, o6, hb]
  clear hK
  refine wp2_loop (fun n s => ∃ k : Nat, s.tm 1 = .t (recs encW ws) ∧ s.tm 2 = .t (.v (.int .i64 t)) ∧ s.tm 3 = .ptr (3, 0) 0 0 ∧ s.tm 6 = .ptr (6, 0) 0 0 ∧ s.tm 7 = .t (.v (.int .i64 k)) ∧ s.ob (3, 0) = some (.var ((encRt (bestW old (ws.take k) t)).map .t)) ∧ s.ob (6, 0) = some (.var [.t (.v (.int .i64 0)), .t (.v (.int .i64 0)), .t (.v (.slice none 0 0))]) ∧ k ≤ ws.length ∧ n = ws.length - k) ws.length ?_ ?_
  · refine ⟨0, ?_⟩
    simp [t0, t1, t2, bestW]
  · rintro n s ⟨k, s1, s2, s3, s6, s7, o3, o6, hk, rfl⟩ K' hK'
    by_cases hlt : k < ws.length
    · have hb := hW.each k hlt
      have hp := hn k hlt
      have e1 := bestW_take (old := old) (t := t) hlt
      have hR := bestW_len hW ho k hk (t := t)
      generalize hU : bestW old (ws.take k) t = R at *
      generalize hw : nth ws k = w at *
      have done : ∀ s' : St, s'.tm 1 = .t (recs encW ws) → s'.tm 2 = .t (.v (.int .i64 t)) → s'.tm 3 = .ptr (3, 0) 0 0 → s'.tm 6 = .ptr (6, 0) 0 0 → s'.tm 7 = .t (.v (.int .i64 (k + 1))) → s'.ob (3, 0) = some (.var ((encRt (bestStep t R w)).map .t)) → s'.ob (6, 0) = some (.var [.t (.v (.int .i64 0)), .t (.v (.int .i64 0)), .t (.v (.slice none 0 0))]) → K' s' := by
        intro s' a1 a2 a3 a6 a7 b3 b6
        refine hK' (ws.length - (k + 1)) _ (by omega) ⟨k + 1, a1, a2, a3, a6, by simpa using a7, ?_, b6, by omega, rfl⟩
        rw [e1]
        exact b3
      clear hK' e1
      by_cases hlast : rd w.e ((w.e.length : Int) - 1) = t
      · have st : bestStep t R w = if winsB R w = true then some (w.c, w.e) else R := by unfold bestStep; simp [hlast]
        rcases R with _ | ⟨c, e⟩
        · have st2 : bestStep t none w = some (w.c, w.e) := by rw [st]; rfl
          simp [encRt] at o3
          repeat' (first
           | refine wp2_seq fun K hK => ?_
           | refine M_cons fun K hK => ?_
           | (refine hK _ ?_; clear hK K)
           | (refine hX _ ?_; clear hX hY X Y)
           | (refine hY _ ?_; clear hX hY X Y)
           | refine wp2_block ?_
           | refine wp2_region ?_
           | refine wp2_cond fun X Y hX hY => ?_
           | (refine condK_of (fun c => ?_) (fun c => ?_) <;> (try simp [-List.length_eq_zero_iff] at c))
           | simp (maxSteps := 4000000) (disch := omega) [s1, s2, s3, s6, s7, o3, o6, hlt, hw, encW, hlast])
          all_goals first | omega | skip
          all_goals exact done _ (by simp [s1]) (by simp [s2]) (by simp [s3]) (by simp [s6]) (by simp) (by simp [st2, encRt]) (by simp [o6])
        · have hl2 := hR c e rfl
          simp [encRt] at o3
          by_cases hc : w.c < c
          · have st2 : bestStep t (some (c, e)) w = some (w.c, w.e) := by rw [st]; simp [winsB, hc]
            have hc3 : ¬ w.c = c := by omega
            repeat' (first
             | refine wp2_seq fun K hK => ?_
             | refine M_cons fun K hK => ?_
             | (refine hK _ ?_; clear hK K)
             | (refine hX _ ?_; clear hX hY X Y)
             | (refine hY _ ?_; clear hX hY X Y)
             | refine wp2_block ?_
             | refine wp2_region ?_
             | refine wp2_cond fun X Y hX hY => ?_
             | (refine condK_of (fun c => ?_) (fun c => ?_) <;> (try simp [-List.length_eq_zero_iff] at c))
             | (refine guard1_or (fun c => ?_) (fun c => ?_) <;> (have cc := c) <;> (try simp [-List.length_eq_zero_iff] at cc) <;> (try simp (disch := omega) [s1, s2, s3, s6, s7, o3, o6, hlt, hw, encW, hlast, hc, hc3, c]))
             | simp (maxSteps := 4000000) (disch := omega) [s1, s2, s3, s6, s7, o3, o6, hlt, hw, encW, hlast, hc, hc3])
            all_goals first | omega | skip
            all_goals exact done _ (by simp [s1]) (by simp [s2]) (by simp [s3]) (by simp [s6]) (by simp) (by simp [st2, encRt]) (by simp [o6])
          · by_cases hc2 : w.c = c
            · cases hbf : Short.before w.e e with
              | true =>
                have st2 : bestStep t (some (c, e)) w = some (w.c, w.e) := by rw [st]; simp [winsB, hc2, hbf]
                repeat' (first
                 | refine wp2_seq fun K hK => ?_
                 | refine M_cons fun K hK => ?_
                 | (refine hK _ ?_; clear hK K)
                 | (refine hX _ ?_; clear hX hY X Y)
                 | (refine hY _ ?_; clear hX hY X Y)
                 | refine wp2_block ?_
                 | refine wp2_region ?_
                 | refine wp2_cond fun X Y hX hY => ?_
                 | (refine condK_of (fun c => ?_) (fun c => ?_) <;> (try simp [-List.length_eq_zero_iff] at c))
                 | (refine callT_fl (before_c _ _ ?_ ?_) (by simp [St.args, St.arg, s1, s2, s3, s6, s7, o3, o6, hlt, hw, encW, hlast, hc2, hbf] <;> first | rfl | ((repeat' first | rfl | apply And.intro); first | done | fail)) ?_; omega; omega)
                 | simp (maxSteps := 4000000) (disch := omega) [s1, s2, s3, s6, s7, o3, o6, hlt, hw, encW, hlast, hc2, hbf])
                all_goals first | omega | skip
                all_goals exact done _ (by simp [s1]) (by simp [s2]) (by simp [s3]) (by simp [s6]) (by simp) (by simp [st2, encRt, hc2]) (by simp [o6])
              | false =>
                have st2 : bestStep t (some (c, e)) w = some (c, e) := by rw [st]; simp [winsB, hc2, hbf]
                repeat' (first
                 | refine wp2_seq fun K hK => ?_
                 | refine M_cons fun K hK => ?_
                 | (refine hK _ ?_; clear hK K)
                 | (refine hX _ ?_; clear hX hY X Y)
                 | (refine hY _ ?_; clear hX hY X Y)
                 | refine wp2_block ?_
                 | refine wp2_region ?_
                 | refine wp2_cond fun X Y hX hY => ?_
                 | (refine condK_of (fun c => ?_) (fun c => ?_) <;> (try simp [-List.length_eq_zero_iff] at c))
                 | (refine callT_fl (before_c _ _ ?_ ?_) (by simp [St.args, St.arg, s1, s2, s3, s6, s7, o3, o6, hlt, hw, encW, hlast, hc2, hbf] <;> first | rfl | ((repeat' first | rfl | apply And.intro); first | done | fail)) ?_; omega; omega)
                 | simp (maxSteps := 4000000) (disch := omega) [s1, s2, s3, s6, s7, o3, o6, hlt, hw, encW, hlast, hc2, hbf])
                all_goals first | omega | skip
                all_goals exact done _ (by simp [s1]) (by simp [s2]) (by simp [s3]) (by simp [s6]) (by simp) (by simp [st2, encRt, o3]) (by simp [o6])
            · have st2 : bestStep t (some (c, e)) w = some (c, e) := by rw [st]; simp [winsB, hc, hc2]
              repeat' (first
               | refine wp2_seq fun K hK => ?_
               | refine M_cons fun K hK => ?_
               | (refine hK _ ?_; clear hK K)
               | (refine hX _ ?_; clear hX hY X Y)
               | (refine hY _ ?_; clear hX hY X Y)
               | refine wp2_block ?_
               | refine wp2_region ?_
               | refine wp2_cond fun X Y hX hY => ?_
               | (refine condK_of (fun c => ?_) (fun c => ?_) <;> (try simp [-List.length_eq_zero_iff] at c))
               | (refine guard1_or (fun c => ?_) (fun c => ?_) <;> (have cc := c) <;> (try simp [-List.length_eq_zero_iff] at cc) <;> (try simp (disch := omega) [s1, s2, s3, s6, s7, o3, o6, hlt, hw, encW, hlast, hc, hc2, c]))
               | simp (maxSteps := 4000000) (disch := omega) [s1, s2, s3, s6, s7, o3, o6, hlt, hw, encW, hlast, hc, hc2])
              all_goals first | omega | skip
              all_goals exact done _ (by simp [s1]) (by simp [s2]) (by simp [s3]) (by simp [s6]) (by simp) (by simp [st2, encRt, o3]) (by simp [o6])
      · have st2 : bestStep t R w = R := by unfold bestStep; simp [hlast]
        repeat' (first
         | refine wp2_seq fun K hK => ?_
         | refine M_cons fun K hK => ?_
         | (refine hK _ ?_; clear hK K)
         | (clear hK K; refine hK _ ?_; clear hK K)
         | (refine hX _ ?_; clear hX hY X Y)
         | (refine hY _ ?_; clear hX hY X Y)
         | refine wp2_block ?_
         | refine wp2_region ?_
         | refine wp2_cond fun X Y hX hY => ?_
         | (refine condK_of (fun c => ?_) (fun c => ?_) <;> (try simp [-List.length_eq_zero_iff] at c))
         | simp (maxSteps := 4000000) (disch := omega) [s1, s2, s3, s6, s7, o3, o6, hlt, hw, encW, hlast])
        all_goals first | omega | skip
        all_goals exact done _ (by simp [s1]) (by simp [s2]) (by simp [s3]) (by simp [s6]) (by simp) (by simp [st2, o3]) (by simp [o6])
    · have hkl : k = ws.length := by omega
      subst hkl
      rw [List.take_length] at o3
      repeat' (first
       | refine wp2_seq fun K hK => ?_
       | refine M_cons fun K hK => ?_
       | (refine hK _ ?_; clear hK K)
       | (refine hY _ ?_; clear hX hY X Y)
       | refine wp2_region ?_
       | refine wp2_cond fun X Y hX hY => ?_
       | (refine condK_of (fun c => ?_) (fun c => ?_) <;> (try simp [-List.length_eq_zero_iff] at c))
       | simp (maxSteps := 4000000) (disch := omega) [s1, s2, s3, s6, s7, o3, o6])
      all_goals first | omega | skip
      exact hJ _ (by simp [s3]) (by simp [s6]) (by simp [o3]) (by simp [o6])
end Cal

/- Walks of a graph; the plain law of the rounds of spec.Shortest. -/
set_option linter.unusedSimpArgs false
set_option linter.unusedVariables false
namespace Cal
open Go Go.Proofs
/-- A walk from the edge s: its last vertex, its number of arcs, its cost, its edges. -/
inductive Wal (g : Gr) (s : Int) : Int → Nat → Int → List Int → Prop
  | base : Wal g s (rd g.start s) 0 (rd g.weight s) [s]
  | step {v : Int} {n : Nat} {c : Int} {e : List Int} (k : Int) : Wal g s v n c e → rd g.first v ≤ k → k < rd g.first (v + 1) → Wal g s (rd g.to k) (n + 1) (c + rd g.cost k) (e ++ [rd g.edgeOf (rd g.to k)])
def LeW (c : Int) (e : List Int) (c' : Int) (e' : List Int) : Prop := c < c' ∨ c = c' ∧ (e = e' ∨ Short.before e e' = true)
theorem LeW.refl (c : Int) (e : List Int) : LeW c e c e := .inr ⟨rfl, .inl rfl⟩
theorem LeW.trans {a b c : Int} {x y z : List Int} (h1 : LeW a x b y) (h2 : LeW b y c z) : LeW a x c z := by
  rcases h1 with h1 | ⟨rfl, h1⟩
  · rcases h2 with h2 | ⟨rfl, h2⟩
    · exact .inl (by omega)
    · exact .inl h1
  · rcases h2 with h2 | ⟨rfl, h2⟩
    · exact .inl h2
    · refine .inr ⟨rfl, ?_⟩
      rcases h1 with rfl | h1
      · exact h2
      · rcases h2 with rfl | h2
        · exact .inr h1
        · exact .inr (Short.before_trans h1 h2)
theorem LeW.anti {a b : Int} {x y : List Int} (h1 : LeW a x b y) (h2 : LeW b y a x) : a = b ∧ x = y := by
  rcases h1 with h1 | ⟨rfl, h1⟩
  · rcases h2 with h2 | ⟨h2, _⟩ <;> omega
  · rcases h2 with h2 | ⟨_, h2⟩
    · omega
    · refine ⟨rfl, ?_⟩
      rcases h1 with h1 | h1
      · exact h1
      · rcases h2 with h2 | h2
        · exact h2.symm
        · rw [Short.before_asymm h1] at h2
          cases h2
theorem LeW.step {a b x : Int} {d : Int} {y z : List Int} (h : LeW a y b z) : LeW (a + d) (y ++ [x]) (b + d) (z ++ [x]) := by
  rcases h with h | ⟨rfl, h⟩
  · exact .inl (by omega)
  · refine .inr ⟨rfl, ?_⟩
    rcases h with rfl | h
    · exact .inl rfl
    · exact .inr (by rw [Short.before_snoc, h]; rfl)
theorem LeW.not {a b : Int} {x y : List Int} (h : ¬ (a < b ∨ a = b ∧ Short.before x y = true)) : LeW b y a x := by
  by_cases h1 : a = b
  · subst h1
    refine .inr ⟨rfl, ?_⟩
    cases h2 : Short.before y x with
    | true => exact .inr rfl
    | false => exact .inl (Short.before_total h2 (by cases h3 : Short.before x y with | true => exact absurd (.inr ⟨rfl, h3⟩) h | false => rfl))
  · exact .inl (by omega)
theorem nodup_lt : ∀ (n : Nat) (l : List Int), l.Nodup → (∀ x ∈ l, 0 ≤ x ∧ x < n) → l.length ≤ n
  | 0, l, _, h => by
    cases l with
    | nil => exact Nat.le_refl _
    | cons x l => have := h x (by simp); omega
  | n + 1, l, hn, h => by
    by_cases hm : (n : Int) ∈ l
    · have e := List.length_erase_of_mem hm
      have := nodup_lt n (l.erase n) (hn.erase _) fun x hx => by
        rw [hn.mem_erase_iff] at hx
        have h1 := h x hx.2
        have h2 := hx.1
        omega
      omega
    · have := nodup_lt n l hn fun x hx => by
        have h1 := h x hx
        have h2 : x ≠ n := fun e => hm (e ▸ hx)
        omega
      omega
/-- Keys that differ. -/
def KN (ws : List Wk) : Prop := (ws.map (·.k)).Nodup
theorem KN.uniq : ∀ {ws : List Wk}, KN ws → ∀ {x y : Wk}, x ∈ ws → y ∈ ws → x.k = y.k → x = y
  | [], _, _, _, h, _, _ => by cases h
  | w :: l, hn, x, y, hx, hy, he => by
    unfold KN at hn
    rw [List.map_cons, List.nodup_cons] at hn
    rcases List.mem_cons.1 hx with h1 | h1 <;> rcases List.mem_cons.1 hy with h2 | h2
    · rw [h1, h2]
    · exact absurd (List.mem_map.2 ⟨y, h2, by rw [← he, h1]⟩) hn.1
    · exact absurd (List.mem_map.2 ⟨x, h1, by rw [he, h2]⟩) hn.1
    · exact KN.uniq (ws := l) hn.2 h1 h2 he
theorem fI_neg {ws : List Wk} {key : List Int} (h : fI ws key < 0) : ∀ w ∈ ws, w.k ≠ key := by
  intro w hw he
  unfold fI findW at h
  rw [if_pos (List.findIdx_lt_length.2 ⟨w, hw, by simpa using he⟩)] at h
  omega
theorem fI_pos {ws : List Wk} {key : List Int} {i : Nat} (h : fI ws key = i) : i < ws.length ∧ (nth ws i).k = key := by
  unfold fI at h
  split at h
  · rename_i h1
    have e : findW ws key = i := by omega
    subst e
    refine ⟨h1, ?_⟩
    rw [nth_get h1]
    unfold findW at h1
    have := List.findIdx_getElem (w := h1)
    unfold findW
    simpa using this
  · omega
theorem nth_in {ws : List Wk} {i : Nat} (h : i < ws.length) : nth ws i ∈ ws := mem_nth.2 ⟨i, h, rfl⟩
/-- A record is put in the place of one with the same key. -/
theorem KN.set {ws : List Wk} (hn : KN ws) {i : Nat} (hi : i < ws.length) {w : Wk} (hk : (nth ws i).k = w.k) : KN (ws.set i w) ∧ w ∈ ws.set i w ∧ (∀ y ∈ ws, y ∈ ws.set i w ∨ y = nth ws i) := by
  have e1 : (ws.set i w).map (·.k) = ws.map (·.k) := by
    rw [List.map_set]
    rw [nth_get hi] at hk
    refine List.ext_getElem (by simp) fun j h1 h2 => ?_
    rw [List.getElem_set]
    split
    · subst_vars; simp [hk]
    · rfl
  refine ⟨by unfold KN; rw [e1]; exact hn, ?_, fun y hy => ?_⟩
  · rw [List.mem_iff_getElem]
    exact ⟨i, by simpa using hi, by simp⟩
  · obtain ⟨j, hj, rfl⟩ := mem_nth.1 hy
    by_cases e : j = i
    · exact .inr (by rw [e])
    · left
      rw [List.mem_iff_getElem]
      refine ⟨j, by simpa using hj, ?_⟩
      rw [List.getElem_set_ne (by omega), nth_get hj]
theorem KN.snoc {ws : List Wk} (hn : KN ws) {w : Wk} (h : ∀ x ∈ ws, x.k ≠ w.k) : KN (ws ++ [w]) := by
  unfold KN at *
  rw [List.map_append, List.nodup_append]
  refine ⟨hn, by simp, ?_⟩
  intro a ha b hb
  obtain ⟨x, hx, rfl⟩ := List.mem_map.1 ha
  simp at hb
  subst hb
  exact h x hx
/-- What one list has is found in the other, no worse. -/
def Cov (a b : List Wk) : Prop := ∀ y ∈ a, ∃ x ∈ b, x.k = y.k ∧ LeW x.c x.e y.c y.e
theorem keep_law {ws : List Wk} {w : Wk} (hn : KN ws) : KN (keepW ws w) ∧ Cov ws (keepW ws w) ∧ (∃ x ∈ keepW ws w, x.k = w.k ∧ LeW x.c x.e w.c w.e) ∧ ∀ x ∈ keepW ws w, x ∈ ws ∨ x = w := by
  unfold keepW
  split
  · rename_i h
    refine ⟨hn.snoc (fI_neg h), fun y hy => ⟨y, by simp [hy], rfl, LeW.refl _ _⟩, ⟨w, by simp, rfl, LeW.refl _ _⟩, fun x hx => by simpa using hx⟩
  · rename_i h
    obtain ⟨i, hi⟩ : ∃ i : Nat, fI ws w.k = i := ⟨(fI ws w.k).toNat, by omega⟩
    obtain ⟨h1, h2⟩ := fI_pos hi
    rw [hi, Int.toNat_natCast]
    split
    · rename_i hb
      have hle : LeW w.c w.e (nth ws i).c (nth ws i).e := by
        unfold betterW at hb
        simp at hb
        rcases hb with hb | hb
        · exact .inl hb
        · exact .inr ⟨hb.1, .inr hb.2⟩
      obtain ⟨a1, a2, a3⟩ := hn.set h1 h2
      refine ⟨a1, fun y hy => ?_, ⟨w, a2, rfl, LeW.refl _ _⟩, fun x hx => List.mem_or_eq_of_mem_set hx⟩
      rcases a3 y hy with h | rfl
      · exact ⟨y, h, rfl, LeW.refl _ _⟩
      · exact ⟨w, a2, h2.symm, hle⟩
    · rename_i hb
      refine ⟨hn, fun y hy => ⟨y, hy, rfl, LeW.refl _ _⟩, ⟨nth ws i, nth_in h1, h2, LeW.not ?_⟩, fun x hx => .inl hx⟩
      unfold betterW at hb
      simpa using hb
theorem isFresh_iff {ws : List Wk} {w : Wk} (hn : KN ws) : isFresh ws w = true ↔ ∀ x ∈ ws, x.k = w.k → w.c < x.c := by
  unfold isFresh
  rcases fI_cases ws w.k with e | ⟨i, e, hi⟩
  · rw [e]
    simp
    intro x hx he
    exact absurd he (fI_neg (by omega) x hx)
  · have h1 := fI_pos e
    rw [e]
    have : ¬ (i : Int) < 0 := by omega
    simp [this]
    refine ⟨fun h x hx he => ?_, fun h => h _ (nth_in hi) h1.2⟩
    rw [hn.uniq hx (nth_in hi) (by rw [he, h1.2])]
    exact h
theorem seeStep_law {ws : List Wk} {w : Wk} (hn : KN ws) (hf : ∀ x ∈ ws, x.k = w.k → w.c < x.c) : KN (seeStep ws w) ∧ w ∈ seeStep ws w ∧ (∀ y ∈ ws, ∃ x ∈ seeStep ws w, x.k = y.k ∧ x.c ≤ y.c) := by
  unfold seeStep
  split
  · rename_i h
    exact ⟨hn.snoc (fI_neg h), by simp, fun y hy => ⟨y, by simp [hy], rfl, Int.le_refl _⟩⟩
  · rename_i h
    obtain ⟨i, hi⟩ : ∃ i : Nat, fI ws w.k = i := ⟨(fI ws w.k).toNat, by omega⟩
    obtain ⟨h1, h2⟩ := fI_pos hi
    rw [hi, Int.toNat_natCast]
    obtain ⟨a1, a2, a3⟩ := hn.set h1 h2
    refine ⟨a1, a2, fun y hy => ?_⟩
    rcases a3 y hy with h | rfl
    · exact ⟨y, h, rfl, Int.le_refl _⟩
    · exact ⟨w, a2, h2.symm, Int.le_of_lt (hf _ (nth_in h1) h2)⟩
theorem see_law : ∀ {fs ws : List Wk}, KN ws → KN fs → (∀ w ∈ fs, ∀ x ∈ ws, x.k = w.k → w.c < x.c) → KN (seeW ws fs) ∧ (∀ w ∈ fs, ∃ x ∈ seeW ws fs, x.k = w.k ∧ x.c ≤ w.c) ∧ (∀ y ∈ ws, ∃ x ∈ seeW ws fs, x.k = y.k ∧ x.c ≤ y.c)
  | [], ws, hn, _, _ => ⟨hn, by simp, fun y hy => ⟨y, hy, rfl, Int.le_refl _⟩⟩
  | w :: l, ws, hn, hl, hf => by
    unfold KN at hl
    rw [List.map_cons, List.nodup_cons] at hl
    obtain ⟨a1, a2, a3⟩ := seeStep_law hn (hf w (by simp))
    obtain ⟨b1, b2, b3⟩ := see_law (fs := l) a1 hl.2 fun w' hw' x hx he => by
      rcases mem_seeStep hx with h | rfl
      · exact hf w' (by simp [hw']) x h he
      · exact absurd (List.mem_map.2 ⟨w', hw', he.symm⟩) hl.1
    refine ⟨b1, fun w' hw' => ?_, fun y hy => ?_⟩
    · rcases List.mem_cons.1 hw' with rfl | h
      · exact b3 _ a2
      · exact b2 _ h
    · obtain ⟨x, hx, h1, h2⟩ := a3 y hy
      obtain ⟨z, hz, h3, h4⟩ := b3 x hx
      exact ⟨z, hz, h3.trans h1, Int.le_trans h4 h2⟩
theorem best_step {t : Int} {old : Rt} {w : Wk} : (∀ c e, old = some (c, e) → ∃ c' e', bestStep t old w = some (c', e') ∧ LeW c' e' c e) ∧ (rd w.e ((w.e.length : Int) - 1) = t → ∃ c' e', bestStep t old w = some (c', e') ∧ LeW c' e' w.c w.e) ∧ (∀ p, bestStep t old w = some p → old = some p ∨ rd w.e ((w.e.length : Int) - 1) = t ∧ p = (w.c, w.e)) := by
  unfold bestStep
  by_cases hl : rd w.e ((w.e.length : Int) - 1) = t
  · rcases old with _ | ⟨c, e⟩
    · simp [hl, winsB]
      exact ⟨_, _, ⟨rfl, rfl⟩, LeW.refl _ _⟩
    · by_cases hw : winsB (some (c, e)) w = true
      · rw [if_pos ⟨hl, hw⟩]
        unfold winsB at hw
        simp at hw
        refine ⟨fun c' e' h => ?_, fun _ => ⟨_, _, rfl, LeW.refl _ _⟩, fun p hp => .inr ⟨hl, by simpa using hp.symm⟩⟩
        cases h
        refine ⟨_, _, rfl, ?_⟩
        rcases hw with hw | hw
        · exact .inl hw
        · exact .inr ⟨hw.1, .inr hw.2⟩
      · rw [if_neg fun h => hw h.2]
        unfold winsB at hw
        simp at hw
        exact ⟨fun c' e' h => ⟨c', e', h, LeW.refl _ _⟩, fun _ => ⟨c, e, rfl, LeW.not (by simpa using hw)⟩, fun p hp => .inl hp⟩
  · rw [if_neg fun h => hl h.1]
    exact ⟨fun c' e' h => ⟨c', e', h, LeW.refl _ _⟩, fun h => absurd h hl, fun p hp => .inl hp⟩
theorem best_law {t : Int} : ∀ {ws : List Wk} {old : Rt}, (∀ c e, old = some (c, e) → ∃ c' e', bestW old ws t = some (c', e') ∧ LeW c' e' c e) ∧ (∀ w ∈ ws, rd w.e ((w.e.length : Int) - 1) = t → ∃ c' e', bestW old ws t = some (c', e') ∧ LeW c' e' w.c w.e) ∧ (∀ p, bestW old ws t = some p → old = some p ∨ ∃ w ∈ ws, rd w.e ((w.e.length : Int) - 1) = t ∧ p = (w.c, w.e))
  | [], old => ⟨fun c e h => ⟨c, e, h, LeW.refl _ _⟩, by simp, fun p h => .inl h⟩
  | w :: l, old => by
    obtain ⟨a1, a2, a3⟩ := best_step (t := t) (old := old) (w := w)
    obtain ⟨b1, b2, b3⟩ := best_law (t := t) (ws := l) (old := bestStep t old w)
    refine ⟨fun c e h => ?_, fun w' hw' hl => ?_, fun p hp => ?_⟩
    · obtain ⟨c1, e1, h1, h2⟩ := a1 c e h
      obtain ⟨c2, e2, h3, h4⟩ := b1 c1 e1 h1
      exact ⟨c2, e2, h3, h4.trans h2⟩
    · rcases List.mem_cons.1 hw' with rfl | h
      · obtain ⟨c1, e1, h1, h2⟩ := a2 hl
        obtain ⟨c2, e2, h3, h4⟩ := b1 c1 e1 h1
        exact ⟨c2, e2, h3, h4.trans h2⟩
      · exact b2 _ h hl
    · rcases b3 p hp with h | ⟨x, hx, h1, h2⟩
      · rcases a3 p h with h | h
        · exact .inl h
        · exact .inr ⟨w, by simp, h⟩
      · exact .inr ⟨x, by simp [hx], h1, h2⟩
end Cal
