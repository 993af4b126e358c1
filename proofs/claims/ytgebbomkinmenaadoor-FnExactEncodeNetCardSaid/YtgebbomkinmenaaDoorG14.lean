/- A part of the proof: a calculus of our own over the model's code, and contracts of the program's functions. -/
import Derived.Test.YtgebbomkinmenaaDoorG11
import Derived.Test.YtgebbomkinmenaaDoorG12
import Derived.Test.YtgebbomkinmenaaDoorG13
/- A calculus of our own: more rules for reckoning: maps. -/
set_option linter.unusedSimpArgs false
set_option linter.unusedVariables false
namespace Cal
open Go Go.Proofs
/-- Fields put into a struct, their values given. -/
def fillV (P : Program) (t : TypeId) (zero : List AV) : List (Nat × AV) → Option (List AV)
  | [] => some zero
  | (i, x) :: l => match foff P t i with
    | some (off, size, _) => if x.cells.length = size ∧ off + size ≤ zero.length ∧ x.cells.all AV.one then fillV P t (over zero off x.cells) l else none
    | none => none
@[simp] theorem fillA_eq (P : Program) (t : TypeId) (st : St) : ∀ (parts : List (Nat × Operand)) (zero : List AV), fillA P t st zero parts = fillV P t zero (parts.map fun p => (p.1, st.ev p.2))
  | [], zero => rfl
  | (i, x) :: l, zero => by
    unfold fillA
    rw [List.map_cons]
    unfold fillV
    cases foff P t i with
    | none => rfl
    | some r =>
      obtain ⟨off, size, ag⟩ := r
      dsimp only
      split
      · exact fillA_eq P t st l _
      · rfl
attribute [simp] fillV
/-- Entries of a map, as abstract values and as values. -/
def vmap {α : Type} (f : α → Value) (kvs : List (MK × α)) : List (MK × AV) := kvs.map fun p => (p.1, .t (.v (f p.2)))
def vmapT {α : Type} (f : α → Value) (kvs : List (MK × α)) : List (MK × Value) := kvs.map fun p => (p.1, f p.2)
@[simp] theorem vmap_nil {α : Type} (f : α → Value) : vmap f [] = [] := rfl
theorem mset_vmap {α : Type} (f : α → Value) (k : MK) (x : α) : ∀ kvs : List (MK × α), mset (vmap f kvs) k (.t (.v (f x))) = vmap f (mset kvs k x)
  | [] => rfl
  | p :: l => by
    have ih := mset_vmap f k x l
    simp only [vmap, List.map_cons, mset] at *
    split
    · rfl
    · rw [ih]; rfl
theorem mget_vmap {α : Type} (f : α → Value) (k : MK) : ∀ kvs : List (MK × α), mget (vmap f kvs) k = (mget kvs k).map fun x => .t (.v (f x))
  | [] => rfl
  | p :: l => by
    have ih := mget_vmap f k l
    simp only [vmap, List.map_cons, mget] at *
    split
    · rfl
    · exact ih
theorem mget_vmapT {α : Type} (f : α → Value) (k : MK) : ∀ kvs : List (MK × α), mget (vmapT f kvs) k = (mget kvs k).map f
  | [] => rfl
  | p :: l => by
    have ih := mget_vmapT f k l
    simp only [vmapT, List.map_cons, mget] at *
    split
    · rfl
    · exact ih
@[simp] theorem flat_vmap {α : Type} (f : α → Value) : ∀ kvs : List (MK × α), flatVals (vmap f kvs) = some (vmapT f kvs)
  | [] => rfl
  | p :: l => by
    have ih := flat_vmap f l
    simp only [vmap, vmapT, List.map_cons, flatVals] at *
    rw [ih]
    rfl
@[simp] theorem vmap_T {α : Type} (f : α → Value) (kvs : List (MK × α)) : ((vmapT f kvs).map fun p => (p.1, AV.t (.v p.2))) = vmap f kvs := by
  simp [vmap, vmapT]
@[simp] theorem kill_vmap {α : Type} (ds : List Nat) (f : α → Value) (kvs : List (MK × α)) : ((vmap f kvs).map fun p => (p.1, p.2.kill ds)) = vmap f kvs := by
  simp [vmap]
@[simp] theorem kill1_vmap {α : Type} (q : Id) (f : α → Value) (kvs : List (MK × α)) : ((vmap f kvs).map fun p => (p.1, p.2.kill1 q)) = vmap f kvs := by
  simp [vmap]
@[simp] theorem ren_vmap {α : Type} (r : Id → Id) (f : α → Value) (kvs : List (MK × α)) : ((vmap f kvs).map fun p => (p.1, p.2.renG r)) = vmap f kvs := by
  simp [vmap]
theorem mget_mset {α : Type} (k k' : MK) (x : α) : ∀ kvs : List (MK × α), mget (mset kvs k x) k' = if k = k' then some x else mget kvs k'
  | [] => by simp [mset, mget]
  | p :: l => by
    have ih := mget_mset k k' x l
    unfold mset
    by_cases h : p.1 = k
    · rw [if_pos h]
      by_cases h2 : k = k'
      · simp [mget, h2]
      · have : ¬ p.1 = k' := fun e => h2 (h.symm.trans e)
        simp [mget, h2, this]
    · rw [if_neg h]
      unfold mget
      by_cases h3 : p.1 = k'
      · have : ¬ k = k' := fun e => h (h3.trans e.symm)
        simp [h3, this]
      · simp [h3, ih]
theorem in64_of {n : Int} (h0 : -9223372036854775808 ≤ n) (h1 : n < 9223372036854775808) : in64 n = true := by simp [in64, h0, h1]
@[simp] theorem keyA_i (n : Int) (h0 : -9223372036854775808 ≤ n) (h1 : n < 9223372036854775808) : keyA 0 (.t (.v (.int .i64 n))) = some (.i n) := by simp [keyA, in64_of h0 h1]
@[simp] theorem keyA_p (a b : Int) (h0 : -9223372036854775808 ≤ a) (h1 : a < 9223372036854775808) (h2 : -9223372036854775808 ≤ b) (h3 : b < 9223372036854775808) : keyA 1 (.agg [.t (.v (.int .i64 a)), .t (.v (.int .i64 b))]) = some (.p a b) := by simp [keyA, in64_of h0 h1, in64_of h2 h3]
/-- A lookup, its key and its map known. -/
def lookB (z : Value) (ok : Bool) (kd : Nat) (k : MK) (o : Option Ob) : Option (AV × Eff) :=
  match o with
  | some (.map kd' kvs) => if kd' = kd then some (lookR ok z (mget kvs k), []) else none
  | some (.fmap kd' kvs) => if kd' = kd then some (lookR ok z ((mget kvs k).map fun x => .t (.v x)), []) else none
  | _ => none
def lookK (z : Value) (ok : Bool) (st : St) (kd : Nat) (x : AV) : Option MK → Option (AV × Eff)
  | none => none
  | some k => match x with
    | .t (.v (.map none)) => some (lookR ok z none, [])
    | .t (.mp kd' kvs) => if kd' = kd then some (lookR ok z ((mget kvs k).map fun x => .t (.v x)), []) else none
    | .mp id => lookB z ok kd k (st.ob id)
    | _ => none
@[simp] theorem lookA_def (st : St) (kt kd : Nat) (z : Value) (ok : Bool) (x k : AV) : lookA st (some ⟨kt, kd, z⟩) ok x k = lookK z ok st kd x (keyA kd k) := by
  unfold lookA lookK
  dsimp only
  cases keyA kd k with
  | none => rfl
  | some key => dsimp only; split <;> first | rfl | (split <;> first | rfl | (simp_all; done))
@[simp] theorem lookK_T {α : Type} (z : Value) (st : St) (kd : Nat) (f : α → Value) (kvs : List (MK × α)) (k : MK) (ok : Bool) : lookK z ok st kd (.t (.mp kd (vmapT f kvs))) (some k) = some (lookR ok z ((mget kvs k).map fun x => .t (.v (f x))), []) := by
  simp [lookK, mget_vmapT]
  rfl
@[simp] theorem lookK_mp (z : Value) (st : St) (kd : Nat) (id : Id) (k : MK) (ok : Bool) : lookK z ok st kd (.mp id) (some k) = lookB z ok kd k (st.ob id) := rfl
@[simp] theorem lookB_v {α : Type} (z : Value) (kd : Nat) (f : α → Value) (kvs : List (MK × α)) (k : MK) (ok : Bool) : lookB z ok kd k (some (.map kd (vmap f kvs))) = some (lookR ok z ((mget kvs k).map fun x => .t (.v (f x))), []) := by
  simp [lookB, mget_vmap]
@[simp] theorem lookR_ti (z : Int) (o : Option Int) : lookR true (.int .i64 z) (o.map fun x => .t (.v (.int .i64 x))) = .tup [.t (.v (.int .i64 (o.getD z))), .t (.v (.bool o.isSome))] := by cases o <;> rfl
@[simp] theorem lookR_fi (z : Int) (o : Option Int) : lookR false (.int .i64 z) (o.map fun x => .t (.v (.int .i64 x))) = .t (.v (.int .i64 (o.getD z))) := by cases o <;> rfl
@[simp] theorem lookR_fb (z : Bool) (o : Option Bool) : lookR false (.bool z) (o.map fun x => .t (.v (.bool x))) = .t (.v (.bool (o.getD z))) := by cases o <;> rfl
@[simp] theorem lookR_tn (z : Value) : lookR true z none = .tup [.t (.v z), .t (.v (.bool false))] := rfl
@[simp] theorem lookR_ts (z : Value) (v : AV) : lookR true z (some v) = .tup [v, .t (.v (.bool true))] := rfl
@[simp] theorem lookR_fn (z : Value) : lookR false z none = .t (.v z) := rfl
@[simp] theorem lookR_fs (z : Value) (v : AV) : lookR false z (some v) = v := rfl
def mupB (id : Id) (kd : Nat) (v : AV) (k : MK) : Option Ob → Option Eff
  | some (.map kd' kvs) => if kd' = kd ∧ v.one = true then some [(id, some (.map kd' (mset kvs k v)))] else none
  | _ => none
def mupK (st : St) (kd : Nat) (x v : AV) : Option MK → Option Eff
  | none => none
  | some k => match x with
    | .mp id => mupB id kd v k (st.ob id)
    | _ => none
@[simp] theorem mupA_def (st : St) (kt kd : Nat) (z : Value) (x k v : AV) : mupA st (some ⟨kt, kd, z⟩) x k v = mupK st kd x v (keyA kd k) := by
  unfold mupA mupK
  dsimp only
  cases keyA kd k with
  | none => rfl
  | some key => dsimp only; split <;> first | rfl | (split <;> first | rfl | (simp_all; done))
@[simp] theorem mupK_mp (st : St) (kd : Nat) (id : Id) (v : AV) (k : MK) : mupK st kd (.mp id) v (some k) = mupB id kd v k (st.ob id) := rfl
@[simp] theorem mupB_i (id : Id) (kd : Nat) (x : Int) (k : MK) (kvs : List (MK × Int)) : mupB id kd (.t (.v (.int .i64 x))) k (some (.map kd (vmap (Value.int .i64) kvs))) = some [(id, some (.map kd (vmap (Value.int .i64) (mset kvs k x))))] := by
  simp [mupB, mset_vmap, AV.one]
@[simp] theorem mupB_b (id : Id) (kd : Nat) (x : Bool) (k : MK) (kvs : List (MK × Bool)) : mupB id kd (.t (.v (.bool x))) k (some (.map kd (vmap Value.bool kvs))) = some [(id, some (.map kd (vmap Value.bool (mset kvs k x))))] := by
  simp [mupB, mset_vmap, AV.one]
@[simp] theorem mupB_i0 (id : Id) (kd : Nat) (x : Int) (k : MK) : mupB id kd (.t (.v (.int .i64 x))) k (some (.map kd [])) = some [(id, some (.map kd (vmap (Value.int .i64) [(k, x)])))] := mupB_i id kd x k []
@[simp] theorem mupB_b0 (id : Id) (kd : Nat) (x : Bool) (k : MK) : mupB id kd (.t (.v (.bool x))) k (some (.map kd [])) = some [(id, some (.map kd (vmap Value.bool [(k, x)])))] := mupB_b id kd x k []
end Cal

/- A calculus of our own: more rules for reckoning: rows of bools, rows of words, parts of rows. -/
set_option linter.unusedSimpArgs false
set_option linter.unusedVariables false
namespace Cal
open Go Go.Proofs
def boolRow (l : List Bool) : List (List T) := l.map fun x => [.v (.bool x)]
def bools (l : List Bool) : T := .sl (boolRow l)
def rdb (l : List Bool) (i : Int) : Bool := l.getD i.toNat false
@[simp] theorem boolRow_length (l : List Bool) : (boolRow l).length = l.length := by simp [boolRow]
@[simp] theorem lenA_bools (k : Nat) (l : List Bool) : lenA (.sl k) (.t (bools l)) = some l.length := by simp [lenA, bools]
theorem boolRow_get {l : List Bool} {i : Nat} (h : i < l.length) : (boolRow l)[i]? = some [.v (.bool (l.getD i false))] := by
  simp [boolRow, h]
@[simp] theorem index_bools (e : Nat) (ag : Bool) (b : Nat) (z : List Value) (l : List Bool) (i : Int) (h0 : 0 ≤ i) (h1 : i < l.length) :
    indexAddrA (some (e, ⟨ag, 1, b, z⟩)) (.t (bools l)) i = some (.roptr [.v (.bool (rdb l i))]) := by
  simp only [indexAddrA, bools, h0, if_true, boolRow_get (l := l) (i := i.toNat) (by omega)]
  rfl
theorem boolRow_set (l : List Bool) (i : Nat) (x : Bool) : (boolRow l).set i [.v (.bool x)] = boolRow (l.set i x) := by
  simp [boolRow, List.map_set]
theorem boolRow_append (l l' : List Bool) : boolRow l ++ boolRow l' = boolRow (l ++ l') := by simp [boolRow]
theorem boolRow_rep (n : Nat) (x : Bool) : List.replicate n [T.v (.bool x)] = boolRow (List.replicate n x) := by simp [boolRow]
@[simp] theorem boolRow_getN (l : List Bool) (i : Nat) (h : i < l.length) : (boolRow l)[i]? = some [.v (.bool (rdb l i))] := by
  rw [boolRow_get h]; simp [rdb]
@[simp] theorem boolRow_getI (l : List Bool) (i : Int) (h0 : 0 ≤ i) (h : i < l.length) : (boolRow l)[i.toNat]? = some [.v (.bool (rdb l i))] := by
  rw [boolRow_get (by omega)]
  rfl
attribute [simp] boolRow_set boolRow_append
theorem take_boolRow (l : List Bool) : (boolRow l).take l.length = boolRow l := by
  have := List.take_length (l := boolRow l)
  rwa [boolRow_length] at this
attribute [simp] take_boolRow
theorem make_bool (d : Nat) (e : Nat) (n : Int) (h0 : 0 ≤ n) (h1 : n ≤ 1099511627776) : makeA d (some (e, ⟨false, 1, 1, [.bool false]⟩)) (.t (.v (.int .i64 n))) (.t (.v (.int .i64 n))) = some (.row (d, 0) 1 0 n.toNat, [((d, 0), some (.row 1 (boolRow (List.replicate n.toNat false))))]) := by
  have h2 : n.toNat ≤ lim := by unfold lim; omega
  simp [makeA, TI.fine, plain, h0, h2, ← boolRow_rep]
attribute [simp] make_bool
/-! rows of words -/
def wordRow (ws : List (List Int)) : List (List T) := ws.map fun w => [ints w]
def words (ws : List (List Int)) : T := .sl (wordRow ws)
def wd (ws : List (List Int)) (i : Int) : List Int := ws.getD i.toNat []
@[simp] theorem wordRow_length (l : List (List Int)) : (wordRow l).length = l.length := by simp [wordRow]
@[simp] theorem lenA_words (k : Nat) (l : List (List Int)) : lenA (.sl k) (.t (words l)) = some l.length := by simp [lenA, words]
theorem wordRow_get {l : List (List Int)} {i : Nat} (h : i < l.length) : (wordRow l)[i]? = some [ints (l.getD i [])] := by
  simp [wordRow, h]
@[simp] theorem index_words (e : Nat) (ag : Bool) (b : Nat) (z : List Value) (l : List (List Int)) (i : Int) (h0 : 0 ≤ i) (h1 : i < l.length) :
    indexAddrA (some (e, ⟨ag, 1, b, z⟩)) (.t (words l)) i = some (.roptr [ints (wd l i)]) := by
  simp only [indexAddrA, words, h0, if_true, wordRow_get (l := l) (i := i.toNat) (by omega)]
  rfl
theorem wordRow_append (l l' : List (List Int)) : wordRow l ++ wordRow l' = wordRow (l ++ l') := by simp [wordRow]
@[simp] theorem wordRow_snoc (l : List (List Int)) (w : List Int) : wordRow l ++ [[ints w]] = wordRow (l ++ [w]) := wordRow_append l [w]
@[simp] theorem wordRow_getN (l : List (List Int)) (i : Nat) (h : i < l.length) : (wordRow l)[i]? = some [ints (wd l i)] := by
  rw [wordRow_get h]; simp [wd]
@[simp] theorem wordRow_getI (l : List (List Int)) (i : Int) (h0 : 0 ≤ i) (h : i < l.length) : (wordRow l)[i.toNat]? = some [ints (wd l i)] := by
  rw [wordRow_get (by omega)]
  rfl
/-! parts of rows -/
theorem szOK_ints (l : List Int) : szOK 1 (intRow l) = true := by simp [szOK, intRow]
@[simp] theorem slice_from (l : List Int) (i : Int) (h0 : 0 ≤ i) (h1 : i ≤ l.length) : sliceO (.sl 1) (.t (ints l)) (some (some i)) none = some (.t (ints (l.drop i.toNat)), []) := by
  have e : ints l = .sl (intRow l) := rfl
  unfold sliceO
  simp only [Option.bind_some, id, Option.bind_none]
  unfold sliceA
  rw [e]
  dsimp only
  rw [if_pos ⟨szOK_ints l, by simpa using h0, by simpa using h1, by simp⟩]
  simp only [Option.map_some, Option.getD_some, Option.getD_none, intRow_length, window]
  have e2 : (intRow l).drop i.toNat = intRow (l.drop i.toNat) := by simp [intRow, List.map_drop]
  rw [e2, List.take_of_length_le (by simp; omega)]
  rfl
@[simp] theorem slice_to (l : List Int) (i : Int) (h0 : 0 ≤ i) (h1 : i ≤ l.length) : sliceO (.sl 1) (.t (ints l)) none (some (some i)) = some (.t (ints (l.take i.toNat)), []) := by
  have e : ints l = .sl (intRow l) := rfl
  unfold sliceO
  simp only [Option.bind_some, id, Option.bind_none]
  unfold sliceA
  rw [e]
  dsimp only
  rw [if_pos ⟨szOK_ints l, by simp, by simpa using h0, by simpa using h1⟩]
  simp only [Option.map_some, Option.getD_some, Option.getD_none, intRow_length, window]
  simp [intRow, List.map_take, ints]
end Cal

/- A calculus of our own: more rules for reckoning: rows of records. -/
set_option linter.unusedSimpArgs false
set_option linter.unusedVariables false
namespace Cal
open Go Go.Proofs
def recRow {α : Type} (enc : α → List T) (l : List α) : List (List T) := l.map enc
def recs {α : Type} (enc : α → List T) (l : List α) : T := .sl (recRow enc l)
def nth {α : Type} [Inhabited α] (l : List α) (i : Int) : α := l.getD i.toNat default
variable {α : Type} [Inhabited α] (enc : α → List T)
@[simp] theorem recRow_length {α : Type} (enc : α → List T) (l : List α) : (recRow enc l).length = l.length := by simp [recRow]
@[simp] theorem lenA_recs {α : Type} (enc : α → List T) (k : Nat) (l : List α) : lenA (.sl k) (.t (recs enc l)) = some l.length := by simp [lenA, recs]
theorem recRow_get {l : List α} {i : Nat} (h : i < l.length) : (recRow enc l)[i]? = some (enc (nth l i)) := by
  simp [recRow, nth, h]
theorem index_recs (e : Nat) (ag : Bool) (n b : Nat) (z : List Value) (l : List α) (i : Int) (hn : ∀ x, n = (enc x).length) (h0 : 0 ≤ i) (h1 : i < l.length) :
    indexAddrA (some (e, ⟨ag, n, b, z⟩)) (.t (recs enc l)) i = some (.roptr (enc (nth l i))) := by
  have h2 : ((i.toNat : Nat) : Int) = i := by omega
  have h3 := recRow_get enc (l := l) (i := i.toNat) (by omega)
  rw [h2] at h3
  simp only [indexAddrA, recs, h0, if_true, h3]
  rw [if_pos (hn _)]
@[simp] theorem recs_sl {α : Type} (enc : α → List T) (l : List α) : T.sl (recRow enc l) = recs enc l := rfl
@[simp] theorem take_recRow {α : Type} (enc : α → List T) (l : List α) : (recRow enc l).take l.length = recRow enc l := by
  have := List.take_length (l := recRow enc l)
  rwa [recRow_length] at this
theorem nth_get {l : List α} {i : Nat} (h : i < l.length) : nth l i = l[i] := by
  unfold nth
  rw [Int.toNat_natCast, List.getD_eq_getElem?_getD, List.getElem?_eq_getElem h]
  rfl
theorem mem_nth {l : List α} {x : α} : x ∈ l ↔ ∃ i : Nat, i < l.length ∧ nth l i = x := by
  rw [List.mem_iff_getElem]
  constructor
  · rintro ⟨i, h, e⟩
    exact ⟨i, h, by rw [nth_get h]; exact e⟩
  · rintro ⟨i, h, e⟩
    exact ⟨i, h, by rw [← nth_get h]; exact e⟩
theorem mem_rd {l : List Int} {x : Int} : x ∈ l ↔ ∃ i : Nat, i < l.length ∧ rd l i = x := mem_nth
/-- A row that is being filled. -/
def filled (r : List (List T)) (k : Nat) (z : List T) : List (List T) := r.take k ++ List.replicate (r.length - k) z
theorem filled_0 (r : List (List T)) (z : List T) : filled r 0 z = List.replicate r.length z := by simp [filled]
@[simp] theorem filled_all (r : List (List T)) (z : List T) : filled r r.length z = r := by simp [filled]
@[simp] theorem filled_length (r : List (List T)) (k : Nat) (z : List T) (h : k ≤ r.length) : (filled r k z).length = r.length := by
  simp [filled]; omega
theorem filled_get {r : List (List T)} {k : Nat} {z : List T} (h : k < r.length) : (filled r k z)[k]? = some z := by
  unfold filled
  rw [List.getElem?_append_right (by simp; omega), List.getElem?_replicate, if_pos (by simp; omega)]
theorem filled_set {r : List (List T)} {k : Nat} {z e : List T} (h : k < r.length) (he : r[k]? = some e) : (filled r k z).set k e = filled r (k + 1) z := by
  unfold filled
  rw [List.set_append_right _ _ (by simp; omega)]
  have e1 : r.length - k = (r.length - (k + 1)) + 1 := by omega
  have e2 : k - (r.take k).length = 0 := by simp; omega
  rw [e1, e2, List.replicate_succ, List.set_cons_zero, List.take_add_one, he]
  simp
@[simp] theorem wrap_mul (a b : Int) (h0 : -9223372036854775808 ≤ a * b) (h1 : a * b < 9223372036854775808) : IntKind.i64.wrap (a * b) = a * b := wrap_in h0 h1
end Cal

/- Rows of bytes, and strings, as lists. No program is named here. -/
set_option linter.unusedSimpArgs false
set_option linter.unusedVariables false
namespace Cal
open Go

/-- A row of bytes. -/
def byteR (l : List UInt8) : List (List T) := l.map fun c => [.v (.int .u8 (c.toNat : Int))]
/-- A string's bytes. -/
@[irreducible] def bs (l : List UInt8) : ByteArray := ⟨l.toArray⟩
theorem bs_def (l : List UInt8) : bs l = ⟨l.toArray⟩ := by unfold bs; rfl
theorem mk_bs (a : Array UInt8) : ByteArray.mk a = bs a.toList := by rw [bs_def]
@[simp] theorem bs_size (l : List UInt8) : (bs l).size = l.length := by rw [bs_def]; simp [ByteArray.size]
@[simp] theorem bs_append (a b : List UInt8) : bs a ++ bs b = bs (a ++ b) := by
  rw [bs_def, bs_def, bs_def]
  apply ByteArray.ext
  simp
@[simp] theorem bs_get (l : List UInt8) (i : Nat) : (bs l)[i]? = l[i]? := by
  rw [bs_def]
  by_cases h : i < l.length
  · rw [List.getElem?_eq_getElem h, getElem?_pos (⟨l.toArray⟩ : ByteArray) i (by simpa [ByteArray.size] using h)]
    simp [ByteArray.getElem_eq_getElem_data]
  · rw [List.getElem?_eq_none (by omega), getElem?_neg (⟨l.toArray⟩ : ByteArray) i (by simpa [ByteArray.size] using h)]
theorem strE_bs (l : List UInt8) : strE (bs l) = byteR l := by rw [bs_def]; rfl
@[simp] theorem byteR_len (l : List UInt8) : (byteR l).length = l.length := by simp [byteR]
@[simp] theorem byteR_append (a b : List UInt8) : byteR a ++ byteR b = byteR (a ++ b) := by simp [byteR]
@[simp] theorem bytesOf_byteR : ∀ l : List UInt8, bytesOf (byteR l) = some l
  | [] => rfl
  | c :: l => by
    have h : byteR (c :: l) = [.v (.int .u8 (c.toNat : Int))] :: byteR l := rfl
    rw [h]
    unfold bytesOf
    rw [bytesOf_byteR l]
    simp
theorem byteR_nil : byteR [] = [] := rfl
theorem byteR_cons (c : UInt8) (l : List UInt8) : byteR (c :: l) = [.v (.int .u8 (c.toNat : Int))] :: byteR l := rfl
theorem byteR_get {l : List UInt8} {i : Nat} {c : UInt8} (h : l[i]? = some c) : (byteR l)[i]? = some [.v (.int .u8 (c.toNat : Int))] := by simp [byteR, h]
theorem flat_byteR (l : List UInt8) : ∀ e ∈ byteR l, ∀ x ∈ e, T.flat x := by
  intro e he x hx
  obtain ⟨y, _, rfl⟩ := List.mem_map.1 he
  simp at hx
  subst hx
  trivial
theorem isStrT_s : isStrT (some .string) = true := rfl
attribute [simp] isStrT_s
@[simp] theorem convA_int (k k' : IntKind) (n : Int) : convA (some (.int k)) (.t (.v (.int k' n))) = some (.t (.v (.int k (k.wrap n))), []) := rfl
@[simp] theorem wrap_ediv (a b : Int) (h0 : -9223372036854775808 ≤ a / b) (h1 : a / b < 9223372036854775808) : IntKind.i64.wrap (a / b) = a / b := wrap_in h0 h1
@[simp] theorem tmod_ten (n : Nat) : (n : Int).tmod 10 = (n : Int) % 10 := rfl
theorem wrap_u8 (x : Int) (h0 : 0 ≤ x) (h1 : x ≤ 255) : IntKind.u8.wrap x = x := by
  simp only [IntKind.wrap, IntKind.bits, IntKind.signed]
  simp
  omega
attribute [simp] wrap_u8
attribute [simp] convS
@[simp] theorem bytesOf_nil : bytesOf [] = some [] := rfl
@[simp] theorem bytesOf_cons (n : Int) (es : List (List T)) : bytesOf ([.v (.int .u8 n)] :: es) = (bytesOf es).map (UInt8.ofNat n.toNat :: ·) := by
  conv => lhs; unfold bytesOf
@[simp] theorem mk_bs' (l : List UInt8) : ByteArray.mk l.toArray = bs l := (bs_def l).symm
@[simp] theorem binV_cat (ty : Bool) (a b : List UInt8) (h : a.length + b.length ≤ 9223372036854775807) : binV .add ty (.string (bs a)) (.string (bs b)) = some (.string (bs (a ++ b))) := by
  have : ¬ (((((bs a).size + (bs b).size : Nat) : Int)) > IntKind.i64.max) := by
    rw [bs_size, bs_size]
    simp only [IntKind.max, IntKind.signed, IntKind.bits]
    simp
    omega
  simp only [binV, if_neg this, bs_append]

def rb (l : List UInt8) (i : Nat) : UInt8 := l.getD i 0
theorem get_rb {l : List UInt8} {i : Nat} (h : i < l.length) : l[i]? = some (rb l i) := by
  unfold rb
  rw [List.getD_eq_getElem?_getD, List.getElem?_eq_getElem h]
  rfl
@[simp] theorem byteR_rb {l : List UInt8} {i : Nat} (h : i < l.length) : (byteR l)[i]? = some [.v (.int .u8 ((rb l i).toNat : Int))] := byteR_get (get_rb h)
theorem take_rb {l : List UInt8} {k : Nat} (h : k < l.length) : l.take (k + 1) = l.take k ++ [rb l k] := by
  rw [List.take_add_one, get_rb h]
  rfl
@[simp] theorem indexA_bs (s : List UInt8) (i : Nat) (h : i < s.length) : indexA .str (.t (.v (.string (bs s)))) (.t (.v (.int .i64 (i : Int)))) = some (.t (.v (.int .u8 ((rb s i).toNat : Int))), []) := by
  simp [indexA, get_rb h]
/-- An append to a row of bytes. -/
def appendQ (ob : Option Ob) (d : Nat) (id : Id) (n : Nat) (es : List (List T)) : Option (AV × Eff) := match ob with
  | some (.row sz fs) => if sz = 1 ∧ n = fs.length ∧ n + es.length ≤ lim then some (.row (d, 0) sz 0 (n + es.length), [(id, none), ((d, 0), some (.row sz (fs ++ es)))]) else none
  | _ => none
theorem appendA_rowB' (d : Nat) (st : St) (id : Id) (n : Nat) (es : List (List T)) : appendA d st ⟨false, 1, 1, [.int .u8 0]⟩ (.row id 1 0 n) es = appendQ (st.ob id) d id n es := by
  simp only [appendA, appendQ, TI.fine, Nat.mul_one]
  rfl
attribute [simp] appendA_rowB'
theorem appendQ_bytes (l xs : List UInt8) (d : Nat) (id : Id) (n : Nat) (h : n = l.length) (h2 : n + xs.length ≤ 1000000000000) : appendQ (some (.row 1 (byteR l))) d id n (byteR xs) = some (.row (d, 0) 1 0 (n + xs.length), [(id, none), ((d, 0), some (.row 1 (byteR (l ++ xs))))]) := by
  have h3 : n + xs.length ≤ lim := by unfold lim; omega
  simp [appendQ, h3, h]
  omega
@[simp] theorem appendQ_byte (l : List UInt8) (c : UInt8) (d : Nat) (id : Id) (n : Nat) (h : n = l.length) (h2 : n ≤ 100000000000) : appendQ (some (.row 1 (byteR l))) d id n [[.v (.int .u8 (c.toNat : Int))]] = some (.row (d, 0) 1 0 (n + 1), [(id, none), ((d, 0), some (.row 1 (byteR (l ++ [c]))))]) :=
  appendQ_bytes l [c] d id n h (by simp; omega)
@[simp] theorem appendQ_ten (l : List UInt8) (d : Nat) (id : Id) (n : Nat) (h : n = l.length) (h2 : n ≤ 100000000000) : appendQ (some (.row 1 (byteR l))) d id n [[.v (.int .u8 10)]] = some (.row (d, 0) 1 0 (n + 1), [(id, none), ((d, 0), some (.row 1 (byteR (l ++ [10]))))]) :=
  appendQ_bytes l [10] d id n h (by simp; omega)
@[simp] theorem appendQ_sp (l : List UInt8) (d : Nat) (id : Id) (n : Nat) (h : n = l.length) (h2 : n ≤ 100000000000) : appendQ (some (.row 1 (byteR l))) d id n [[.v (.int .u8 32)]] = some (.row (d, 0) 1 0 (n + 1), [(id, none), ((d, 0), some (.row 1 (byteR (l ++ [32]))))]) :=
  appendQ_bytes l [32] d id n h (by simp; omega)
attribute [simp] appendQ_bytes
@[simp] theorem appendS_row (d : Nat) (st : St) (id : Id) (n : Nat) (s : List UInt8) : appendS d st ⟨false, 1, 1, [.int .u8 0]⟩ (.row id 1 0 n) (.t (.v (.string (bs s)))) = appendQ (st.ob id) d id n (byteR s) := by
  have hc : ((⟨false, 1, 1, [.int .u8 0]⟩ : TI).size = 1 ∧ (⟨false, 1, 1, [.int .u8 0]⟩ : TI).bytes = 1 ∧ (⟨false, 1, 1, [.int .u8 0]⟩ : TI).fine = true) := ⟨rfl, rfl, rfl⟩
  unfold appendS appendQ
  simp only [strE_bs, bs_size, byteR_len, hc.2.2, and_self, if_true]
  generalize st.ob id = ob
  cases ob with
  | none => rfl
  | some o => cases o with
    | row sz fs =>
      by_cases h : sz = 1 ∧ n = fs.length ∧ n + s.length ≤ lim
      · simp only [if_pos h]
        rw [h.1]
      · simp only [if_neg h]
    | _ => rfl
@[simp] theorem appendS_full (d : Nat) (st : St) (l s : List UInt8) (h : 0 < s.length) (h2 : l.length + s.length ≤ 1000000000000) : appendS d st ⟨false, 1, 1, [.int .u8 0]⟩ (.full (byteR l)) (.t (.v (.string (bs s)))) = some (.row (d, 0) 1 0 (l.length + s.length), [((d, 0), some (.row 1 (byteR (l ++ s))))]) := by
  have hc : ((⟨false, 1, 1, [.int .u8 0]⟩ : TI).size = 1 ∧ (⟨false, 1, 1, [.int .u8 0]⟩ : TI).bytes = 1 ∧ (⟨false, 1, 1, [.int .u8 0]⟩ : TI).fine = true) := ⟨rfl, rfl, rfl⟩
  have h3 : s.length ≠ 0 ∧ l.length + s.length ≤ lim := by unfold lim; omega
  unfold appendS
  simp only [strE_bs, bs_size, byteR_len, if_pos h3, byteR_append, hc.2.2, and_self, if_true]
@[simp] theorem muteB_lo (a : Nat) (lo : List Nat) (d : Nat) : muteB true (a :: lo) (some d) = !((a :: lo).contains d) := rfl
end Cal

set_option linter.unusedSimpArgs false
set_option linter.unusedVariables false
namespace Cal
open Go Go.Proofs
set_option maxRecDepth 100000
structure Way where
  id : Int
  two : Bool
  nodes : List Int
  lens : List Int
instance : Inhabited Way := ⟨⟨0, false, [], []⟩⟩
structure Rln where
  id : Int
  only : Bool
  fr : Int
  to : Int
  atNode : Bool
  node : Int
  via : List Int
instance : Inhabited Rln := ⟨⟨0, false, 0, 0, false, 0, []⟩⟩
structure Tc where
  fr : Int
  to : Int
  cost : Int
instance : Inhabited Tc := ⟨⟨0, 0, 0⟩⟩
structure Net where
  nodes : List Int
  ways : List Way
  rels : List Rln
  tcs : List Tc
  uturn : Int
def encW (w : Way) : List T := [.v (.int .i64 w.id), .v (.bool w.two), ints w.nodes, ints w.lens]
def encR (r : Rln) : List T := [.v (.int .i64 r.id), .v (.bool r.only), .v (.int .i64 r.fr), .v (.int .i64 r.to), .v (.bool r.atNode), .v (.int .i64 r.node), ints r.via]
def encC (t : Tc) : List T := [.v (.int .i64 t.fr), .v (.int .i64 t.to), .v (.int .i64 t.cost)]
def encN (n : Net) : List T := [ints n.nodes, recs encW n.ways, recs encR n.rels, recs encC n.tcs, .v (.int .i64 n.uturn)]
@[simp] theorem index_ways (e : Nat) (ag : Bool) (b : Nat) (z : List Value) (l : List Way) (i : Int) (h0 : 0 ≤ i) (h1 : i < l.length) :
    indexAddrA (some (e, ⟨ag, 4, b, z⟩)) (.t (recs encW l)) i = some (.roptr (encW (nth l i))) := index_recs encW e ag 4 b z l i (fun _ => rfl) h0 h1
@[simp] theorem index_rels (e : Nat) (ag : Bool) (b : Nat) (z : List Value) (l : List Rln) (i : Int) (h0 : 0 ≤ i) (h1 : i < l.length) :
    indexAddrA (some (e, ⟨ag, 7, b, z⟩)) (.t (recs encR l)) i = some (.roptr (encR (nth l i))) := index_recs encR e ag 7 b z l i (fun _ => rfl) h0 h1
@[simp] theorem index_tcs (e : Nat) (ag : Bool) (b : Nat) (z : List Value) (l : List Tc) (i : Int) (h0 : 0 ≤ i) (h1 : i < l.length) :
    indexAddrA (some (e, ⟨ag, 3, b, z⟩)) (.t (recs encC l)) i = some (.roptr (encC (nth l i))) := index_recs encC e ag 3 b z l i (fun _ => rfl) h0 h1
def objN (n : Net) : Option Ob := some (.var [.t (ints n.nodes), .t (recs encW n.ways), .t (recs encR n.rels), .t (recs encC n.tcs), .t (.v (.int .i64 n.uturn))])
def objW (w : Way) : Option Ob := some (.var [.t (.v (.int .i64 w.id)), .t (.v (.bool w.two)), .t (ints w.nodes), .t (ints w.lens)])
def objR (r : Rln) : Option Ob := some (.var [.t (.v (.int .i64 r.id)), .t (.v (.bool r.only)), .t (.v (.int .i64 r.fr)), .t (.v (.int .i64 r.to)), .t (.v (.bool r.atNode)), .t (.v (.int .i64 r.node)), .t (ints r.via)])
/-- Lengths that the calculus takes. -/
structure LN (n : Net) : Prop where
  nd : n.nodes.length ≤ 1048576
  w : n.ways.length ≤ 1048576
  r : n.rels.length ≤ 1048576
  t : n.tcs.length ≤ 1048576
  wn : ∀ i : Nat, i < n.ways.length → (nth n.ways i).nodes.length ≤ 1048576
  wl : ∀ i : Nat, i < n.ways.length → (nth n.ways i).lens.length ≤ 1048576
  rv : ∀ i : Nat, i < n.rels.length → (nth n.rels i).via.length ≤ 1048576
noncomputable instance (x : Int) (l : List Int) : Decidable (x ∈ l) := Classical.propDecidable _
/-- The code of spec.l1HasNode. -/
def k70 : Code1 :=
 (.seq
 (.region [2] false ([]) [
 ⟨some 2,Op.box 35 (Operand.tmp 0),none⟩,
 ⟨some 4,Op.assign (Operand.const (Value.bool false)),none⟩])
 (.seq
 (.seq
 (.region [] false ([]) [
 ⟨some 5,Op.assign (Operand.const (Value.int IntKind.i64 0)),none⟩])
 (.block 0
 (.loop
 (.seq
 (.seq
 (.region [] false ([]) [
 ⟨some 6,Op.move (Operand.tmp 5),none⟩,
 ⟨some 7,Op.fieldAddr 35 (Operand.tmp 2) 0,none⟩,
 ⟨some 8,Op.load 22 (Operand.tmp 7),none⟩,
 ⟨some 9,Op.call {callee:=Callee.builtin Builtin.len,args:=#[Operand.tmp 8],argTypes:=#[22]},none⟩,
 ⟨some 10,Op.binOp BinOp.lss 3 (Operand.tmp 6) (Operand.tmp 9) 3,none⟩])
 (.cond (Operand.tmp 10)
 .skip
 (.exit 0)))
 (.seq
 (.block 1
 (.seq
 (.region [] false ([]) [
 ⟨some 13,Op.fieldAddr 35 (Operand.tmp 2) 0,none⟩,
 ⟨some 14,Op.load 22 (Operand.tmp 13),none⟩,
 ⟨some 15,Op.move (Operand.tmp 5),none⟩,
 ⟨some 16,Op.indexAddr 22 (Operand.tmp 14) (Operand.tmp 15),none⟩,
 ⟨some 17,Op.load 2 (Operand.tmp 16),none⟩,
 ⟨some 18,Op.move (Operand.tmp 1),none⟩,
 ⟨some 19,Op.binOp BinOp.eql 2 (Operand.tmp 17) (Operand.tmp 18) 2,none⟩])
 (.cond (Operand.tmp 19)
 (.seq
 (.region [] false ([]) [
 ⟨some 4,Op.assign (Operand.const (Value.bool true)),none⟩])
 .ret)
 .skip)))
 (.region [] false ([]) [
 ⟨some 11,Op.move (Operand.tmp 5),none⟩,
 ⟨some 12,Op.binOp BinOp.add 3 (Operand.tmp 11) (Operand.const (Value.int IntKind.i64 1)) 3,none⟩,
 ⟨some 5,Op.assign (Operand.tmp 12),none⟩]))))))
 (.seq
 (.region [] false ([]) [
 ⟨some 4,Op.assign (Operand.const (Value.bool false)),none⟩])
 .ret)))
theorem hasNode_c (n : Net) (x : Int) (hn : n.nodes.length ≤ 1048576) :
    CallsF Tryd.prog 70 [.agg (encN n), .val (.v (.int .i64 x))] (.t (.v (.bool (decide (x ∈ n.nodes))))) [] := by
  refine callsF_of_wp2 (fn := Tryd.f70) (k := k70) (fun _ => []) mixed (by kernel_rfl) rfl (by kernel_rfl) (by kernel_rfl) (by kernel_rfl) rfl (by simp [Tryd.f70]) (by simp [Arg.like]) ?_
  generalize hst : St.enter [.agg (encN n), .val (.v (.int .i64 x))] = st0
  have t0 : st0.tm 0 = .agg ((encN n) |>.map .t) := by rw [← hst]; rfl
  have t1 : st0.tm 1 = .t (.v (.int .i64 x)) := by rw [← hst]; rfl
  clear hst
  unfold k70
  simp [encN] at t0
  repeat' (first
   | refine wp2_seq fun K hK => ?_
   | refine M_cons fun K hK => ?_
   | (refine hK _ ?_; clear hK K)
   | refine wp2_block ?_
   | refine wp2_region ?_
   | simp (maxSteps := 4000000) (disch := omega) [t0, t1])
  have hJ : x ∉ n.nodes → ∀ s, K s := by
    intro hx s
    repeat' (first
     | refine wp2_seq fun K hK => ?_
     | refine M_cons fun K hK => ?_
     | (refine hK _ ?_; clear hK K)
     | refine wp2_region ?_
     | simp (maxSteps := 4000000) (disch := omega) [hx])
    all_goals try (simp [hx, Back]; done)
  clear hK
  refine wp2_loop (fun m s => ∃ k : Nat, s.tm 1 = .t (.v (.int .i64 x)) ∧ s.tm 2 = .ptr (2, 0) 0 0 ∧ s.ob (2, 0) = objN n ∧ s.tm 5 = .t (.v (.int .i64 k)) ∧ k ≤ n.nodes.length ∧ m = n.nodes.length - k ∧ ∀ i < k, rd n.nodes i ≠ x) n.nodes.length ?_ ?_
  · exact ⟨0, by simp [t0, t1, objN]⟩
  · rintro m s ⟨k, s1, s2, o2, s5, hk, rfl, hq⟩ K' hK'
    simp only [objN] at o2
    repeat' (first
     | refine wp2_seq fun K hK => ?_
     | refine M_cons fun K hK => ?_
     | (refine hK _ ?_; clear hK K)
     | (refine hX _ ?_; clear hX hY X Y)
     | (refine hY _ ?_; clear hX hY X Y)
     | refine wp2_block ?_
     | refine wp2_region ?_
     | refine wp2_cond fun X Y hX hY => ?_
     | (refine condK_of (fun c => ?_) (fun c => ?_) <;> (try simp [-List.length_eq_zero_iff] at c))
     | simp (maxSteps := 4000000) (disch := omega) [s1, s2, o2, s5])
    all_goals first
      | omega
      | (have hx : x ∈ n.nodes := mem_rd.2 ⟨k, by omega, c⟩
         simp [Back, hx]; done)
      | (refine hK' (n.nodes.length - (k + 1)) _ (by omega) ⟨k + 1, ?_⟩
         simp [s1, s2, objN, o2]
         exact ⟨by omega, below_succ (p := fun i : Nat => ¬ rd n.nodes i = x) hq (by omega)⟩)
      | exact hJ (fun hx => by obtain ⟨i, hi, e⟩ := mem_rd.1 hx; exact hq i (by omega) e) _
/-- The first way of a number. -/
def wayAt (l : List Way) (x : Int) : Int := match l with
  | [] => -1
  | w :: ws => if w.id = x then 0 else if wayAt ws x < 0 then -1 else wayAt ws x + 1
theorem wayAt_ge : ∀ (l : List Way) (x : Int), -1 ≤ wayAt l x
  | [], _ => by simp [wayAt]
  | w :: ws, x => by
    have := wayAt_ge ws x
    unfold wayAt
    split
    · omega
    · split <;> omega
theorem wayAt_hit : ∀ {l : List Way} {x : Int} {k : Nat}, k < l.length → (nth l k).id = x → (∀ i : Nat, i < k → (nth l i).id ≠ x) → wayAt l x = k
  | [], _, k, h, _, _ => by simp at h
  | w :: ws, x, 0, _, h, _ => by
    have : w.id = x := h
    simp [wayAt, this]
  | w :: ws, x, k + 1, hk, h, ho => by
    have h0 : ¬ w.id = x := ho 0 (by omega)
    have ih := wayAt_hit (l := ws) (x := x) (k := k) (by simpa using hk) h (fun i hi => ho (i + 1) (by omega))
    unfold wayAt
    rw [if_neg h0, ih, if_neg (by omega)]
    simp
def isWay (l : List Way) (x : Int) : Prop := ∃ i : Nat, i < l.length ∧ (nth l i).id = x
noncomputable instance (l : List Way) (x : Int) : Decidable (isWay l x) := Classical.propDecidable _
theorem wayAt_iff : ∀ {l : List Way} {x : Int}, wayAt l x < 0 ↔ ¬ isWay l x
  | [], x => by simp [wayAt, isWay]
  | w :: ws, x => by
    have ih := wayAt_iff (l := ws) (x := x)
    have hc : isWay (w :: ws) x ↔ w.id = x ∨ isWay ws x := by
      constructor
      · rintro ⟨i, h1, h2⟩
        cases i with
        | zero => exact .inl h2
        | succ i => exact .inr ⟨i, by simpa using h1, h2⟩
      · rintro (h | ⟨i, h1, h2⟩)
        · exact ⟨0, by simp, h⟩
        · exact ⟨i + 1, by simpa using h1, h2⟩
    rw [hc]
    unfold wayAt
    by_cases h : w.id = x
    · simp [h]
    · rw [if_neg h]
      by_cases h2 : wayAt ws x < 0
      · rw [if_pos h2]
        have := ih.1 h2
        simp [h, this]
      · rw [if_neg h2]
        have h3 : isWay ws x := Decidable.not_not.1 (fun hh => h2 (ih.2 hh))
        simp [h3]
        omega
/-- The code of spec.l1WayAt. -/
def k46 : Code1 :=
 (.seq
 (.region [2] false ([]) [
 ⟨some 2,Op.box 35 (Operand.tmp 0),none⟩,
 ⟨some 4,Op.assign (Operand.const (Value.int IntKind.i64 0)),none⟩])
 (.seq
 (.seq
 (.region [] false ([]) [
 ⟨some 5,Op.assign (Operand.const (Value.int IntKind.i64 0)),none⟩])
 (.block 0
 (.loop
 (.seq
 (.seq
 (.region [] false ([]) [
 ⟨some 6,Op.move (Operand.tmp 5),none⟩,
 ⟨some 7,Op.fieldAddr 35 (Operand.tmp 2) 1,none⟩,
 ⟨some 8,Op.load 31 (Operand.tmp 7),none⟩,
 ⟨some 9,Op.call {callee:=Callee.builtin Builtin.len,args:=#[Operand.tmp 8],argTypes:=#[31]},none⟩,
 ⟨some 10,Op.binOp BinOp.lss 3 (Operand.tmp 6) (Operand.tmp 9) 3,none⟩])
 (.cond (Operand.tmp 10)
 .skip
 (.exit 0)))
 (.seq
 (.block 1
 (.seq
 (.region [] false ([]) [
 ⟨some 13,Op.fieldAddr 35 (Operand.tmp 2) 1,none⟩,
 ⟨some 14,Op.load 31 (Operand.tmp 13),none⟩,
 ⟨some 15,Op.move (Operand.tmp 5),none⟩,
 ⟨some 16,Op.indexAddr 31 (Operand.tmp 14) (Operand.tmp 15),none⟩,
 ⟨some 17,Op.fieldAddr 55 (Operand.tmp 16) 0,none⟩,
 ⟨some 18,Op.load 2 (Operand.tmp 17),none⟩,
 ⟨some 19,Op.move (Operand.tmp 1),none⟩,
 ⟨some 20,Op.binOp BinOp.eql 2 (Operand.tmp 18) (Operand.tmp 19) 2,none⟩])
 (.cond (Operand.tmp 20)
 (.seq
 (.region [] false ([]) [
 ⟨some 21,Op.move (Operand.tmp 5),none⟩,
 ⟨some 4,Op.assign (Operand.tmp 21),none⟩])
 .ret)
 .skip)))
 (.region [] false ([]) [
 ⟨some 11,Op.move (Operand.tmp 5),none⟩,
 ⟨some 12,Op.binOp BinOp.add 3 (Operand.tmp 11) (Operand.const (Value.int IntKind.i64 1)) 3,none⟩,
 ⟨some 5,Op.assign (Operand.tmp 12),none⟩]))))))
 (.seq
 (.region [] false ([]) [
 ⟨some 4,Op.assign (Operand.const (Value.int IntKind.i64 (-1))),none⟩])
 .ret)))
theorem wayAt_c (n : Net) (x : Int) (hn : n.ways.length ≤ 1048576) :
    CallsF Tryd.prog 46 [.agg (encN n), .val (.v (.int .i64 x))] (.t (.v (.int .i64 (wayAt n.ways x)))) [] := by
  refine callsF_of_wp2 (fn := Tryd.f46) (k := k46) (fun _ => []) mixed (by kernel_rfl) rfl (by kernel_rfl) (by kernel_rfl) (by kernel_rfl) rfl (by simp [Tryd.f46]) (by simp [Arg.like]) ?_
  generalize hst : St.enter [.agg (encN n), .val (.v (.int .i64 x))] = st0
  have t0 : st0.tm 0 = .agg ((encN n) |>.map .t) := by rw [← hst]; rfl
  have t1 : st0.tm 1 = .t (.v (.int .i64 x)) := by rw [← hst]; rfl
  clear hst
  unfold k46
  simp [encN] at t0
  repeat' (first
   | refine wp2_seq fun K hK => ?_
   | refine M_cons fun K hK => ?_
   | (refine hK _ ?_; clear hK K)
   | refine wp2_block ?_
   | refine wp2_region ?_
   | simp (maxSteps := 4000000) (disch := omega) [t0, t1])
  have hJ : ¬ isWay n.ways x → ∀ s, K s := by
    intro hx s
    have : wayAt n.ways x = -1 := by have := wayAt_iff.2 hx; have := wayAt_ge n.ways x; omega
    repeat' (first
     | refine wp2_seq fun K hK => ?_
     | refine M_cons fun K hK => ?_
     | (refine hK _ ?_; clear hK K)
     | refine wp2_region ?_
     | simp (maxSteps := 4000000) (disch := omega) [this])
    all_goals try (simp [this, Back]; done)
  clear hK
  refine wp2_loop (fun m s => ∃ k : Nat, s.tm 1 = .t (.v (.int .i64 x)) ∧ s.tm 2 = .ptr (2, 0) 0 0 ∧ s.ob (2, 0) = objN n ∧ s.tm 5 = .t (.v (.int .i64 k)) ∧ k ≤ n.ways.length ∧ m = n.ways.length - k ∧ ∀ i : Nat, i < k → (nth n.ways i).id ≠ x) n.ways.length ?_ ?_
  · exact ⟨0, by simp [t0, t1, objN]⟩
  · rintro m s ⟨k, s1, s2, o2, s5, hk, rfl, hq⟩ K' hK'
    simp only [objN] at o2
    repeat' (first
     | refine wp2_seq fun K hK => ?_
     | refine M_cons fun K hK => ?_
     | (refine hK _ ?_; clear hK K)
     | (refine hX _ ?_; clear hX hY X Y)
     | (refine hY _ ?_; clear hX hY X Y)
     | refine wp2_block ?_
     | refine wp2_region ?_
     | refine wp2_cond fun X Y hX hY => ?_
     | (refine condK_of (fun c => ?_) (fun c => ?_) <;> (try simp [-List.length_eq_zero_iff] at c))
     | simp (maxSteps := 4000000) (disch := omega) [s1, s2, o2, s5, encW])
    all_goals first
      | omega
      | (have hx : wayAt n.ways x = k := wayAt_hit (by omega) c hq
         simp [Back, hx]; done)
      | (refine hK' (n.ways.length - (k + 1)) _ (by omega) ⟨k + 1, ?_⟩
         simp [s1, s2, objN, o2]
         exact ⟨by omega, below_succ (p := fun i : Nat => ¬ (nth n.ways i).id = x) hq (by omega)⟩)
      | exact hJ (fun hx => by obtain ⟨i, hi, e⟩ := hx; exact hq i (by omega) e) _
end Cal

set_option linter.unusedSimpArgs false
set_option linter.unusedVariables false
namespace Cal
open Go Go.Proofs
set_option maxRecDepth 100000
def edgesW (w : Way) : Int := if w.two = true then 2 * w.lens.length else w.lens.length
/-- The code of spec.l1WayEdges. -/
def k44 : Code1 :=
 (.seq
 (.region [1] false ([]) [
 ⟨some 1,Op.box 55 (Operand.tmp 0),none⟩,
 ⟨some 2,Op.assign (Operand.const (Value.int IntKind.i64 0)),none⟩])
 (.seq
 (.seq
 (.region [] false ([]) [
 ⟨some 3,Op.fieldAddr 55 (Operand.tmp 1) 1,none⟩,
 ⟨some 4,Op.load 4 (Operand.tmp 3),none⟩])
 (.cond (Operand.tmp 4)
 (.seq
 (.region [] false ([]) [
 ⟨some 5,Op.fieldAddr 55 (Operand.tmp 1) 3,none⟩,
 ⟨some 6,Op.load 22 (Operand.tmp 5),none⟩,
 ⟨some 7,Op.call {callee:=Callee.builtin Builtin.len,args:=#[Operand.tmp 6],argTypes:=#[22]},none⟩,
 ⟨some 8,Op.binOp BinOp.mul 3 (Operand.const (Value.int IntKind.i64 2)) (Operand.tmp 7) 3,none⟩,
 ⟨some 2,Op.assign (Operand.tmp 8),none⟩])
 .ret)
 .skip))
 (.seq
 (.region [] false ([]) [
 ⟨some 9,Op.fieldAddr 55 (Operand.tmp 1) 3,none⟩,
 ⟨some 10,Op.load 22 (Operand.tmp 9),none⟩,
 ⟨some 11,Op.call {callee:=Callee.builtin Builtin.len,args:=#[Operand.tmp 10],argTypes:=#[22]},none⟩,
 ⟨some 2,Op.assign (Operand.tmp 11),none⟩])
 .ret)))
theorem wayEdges_c (w : Way) (h : w.lens.length ≤ 1048576) :
    CallsF Tryd.prog 44 [.agg (encW w)] (.t (.v (.int .i64 (edgesW w)))) [] := by
  refine callsF_of_wp2 (fn := Tryd.f44) (k := k44) (fun _ => []) mixed (by kernel_rfl) rfl (by kernel_rfl) (by kernel_rfl) (by kernel_rfl) rfl (by simp [Tryd.f44]) (by simp [Arg.like]) ?_
  generalize hst : St.enter [.agg (encW w)] = st0
  have t0 : st0.tm 0 = .agg ((encW w) |>.map .t) := by rw [← hst]; rfl
  clear hst
  unfold k44
  simp [encW] at t0
  cases ht : w.two with
  | true =>
    have e : edgesW w = 2 * w.lens.length := if_pos ht
    repeat' (first
     | refine wp2_seq fun K hK => ?_
     | refine M_cons fun K hK => ?_
     | (refine hK _ ?_; clear hK K)
     | (refine hX _ ?_; clear hX hY X Y)
     | refine wp2_region ?_
     | refine wp2_cond fun X Y hX hY => ?_
     | (refine condK_of (fun c => ?_) (fun c => ?_) <;> (try simp [-List.length_eq_zero_iff] at c))
     | simp (maxSteps := 4000000) (disch := omega) [t0, ht, e])
    all_goals try (simp [t0, ht, e, Back]; done)
    all_goals omega
  | false =>
    have e : edgesW w = w.lens.length := if_neg (by rw [ht]; simp)
    repeat' (first
     | refine wp2_seq fun K hK => ?_
     | refine M_cons fun K hK => ?_
     | (refine hK _ ?_; clear hK K)
     | (refine hY _ ?_; clear hX hY X Y)
     | refine wp2_region ?_
     | refine wp2_cond fun X Y hX hY => ?_
     | (refine condK_of (fun c => ?_) (fun c => ?_) <;> (try simp [-List.length_eq_zero_iff] at c))
     | simp (maxSteps := 4000000) (disch := omega) [t0, ht, e])
    all_goals try (simp [t0, ht, e, Back]; done)
    all_goals omega
/-- A way is right. -/
structure WOK (n : Net) (w : Way) : Prop where
  id : inR w.id
  l1 : 1 ≤ w.lens.length
  l2 : w.lens.length ≤ 100
  ln : w.nodes.length = w.lens.length + 1
  ls : ∀ i : Nat, i < w.lens.length → inR (rd w.lens i)
  ns : ∀ i : Nat, i < w.nodes.length → rd w.nodes i ∈ n.nodes
noncomputable instance (n : Net) (w : Way) : Decidable (WOK n w) := Classical.propDecidable _
/-- The code of spec.l1WayGood. -/
def k43 : Code1 :=
 (.seq
 (.region [2,3] false ([]) [
 ⟨some 2,Op.box 35 (Operand.tmp 0),none⟩,
 ⟨some 3,Op.box 55 (Operand.tmp 1),none⟩,
 ⟨some 4,Op.assign (Operand.const (Value.bool false)),none⟩])
 (.seq
 (.seq
 (.region [9] false ([]) [
 ⟨some 7,Op.fieldAddr 55 (Operand.tmp 3) 0,none⟩,
 ⟨some 8,Op.load 2 (Operand.tmp 7),none⟩,
 ⟨some 9,Op.call {callee:=Callee.value (Operand.func 42),args:=#[Operand.tmp 8],argTypes:=#[2]},none⟩,
 ⟨some 10,Op.unOp UnOp.not 4 (Operand.tmp 9),none⟩,
 ⟨some 11,Op.move (Operand.tmp 10),none⟩,
 ⟨some 12,Op.fieldAddr 55 (Operand.tmp 3) 3,some (11,false)⟩,
 ⟨some 13,Op.load 22 (Operand.tmp 12),some (11,false)⟩,
 ⟨some 14,Op.call {callee:=Callee.builtin Builtin.len,args:=#[Operand.tmp 13],argTypes:=#[22]},some (11,false)⟩,
 ⟨some 15,Op.binOp BinOp.lss 3 (Operand.tmp 14) (Operand.const (Value.int IntKind.i64 1)) 3,some (11,false)⟩,
 ⟨some 16,Op.pick (Operand.tmp 11) (Operand.const (Value.bool true)) (Operand.tmp 15),none⟩,
 ⟨some 17,Op.move (Operand.tmp 16),none⟩,
 ⟨some 18,Op.fieldAddr 55 (Operand.tmp 3) 3,some (17,false)⟩,
 ⟨some 19,Op.load 22 (Operand.tmp 18),some (17,false)⟩,
 ⟨some 20,Op.call {callee:=Callee.builtin Builtin.len,args:=#[Operand.tmp 19],argTypes:=#[22]},some (17,false)⟩,
 ⟨some 21,Op.binOp BinOp.gtr 3 (Operand.tmp 20) (Operand.const (Value.int IntKind.i64 100)) 3,some (17,false)⟩,
 ⟨some 22,Op.pick (Operand.tmp 17) (Operand.const (Value.bool true)) (Operand.tmp 21),none⟩,
 ⟨some 23,Op.move (Operand.tmp 22),none⟩,
 ⟨some 24,Op.fieldAddr 55 (Operand.tmp 3) 2,some (23,false)⟩,
 ⟨some 25,Op.load 22 (Operand.tmp 24),some (23,false)⟩,
 ⟨some 26,Op.call {callee:=Callee.builtin Builtin.len,args:=#[Operand.tmp 25],argTypes:=#[22]},some (23,false)⟩,
 ⟨some 27,Op.fieldAddr 55 (Operand.tmp 3) 3,some (23,false)⟩,
 ⟨some 28,Op.load 22 (Operand.tmp 27),some (23,false)⟩,
 ⟨some 29,Op.call {callee:=Callee.builtin Builtin.len,args:=#[Operand.tmp 28],argTypes:=#[22]},some (23,false)⟩,
 ⟨some 30,Op.binOp BinOp.add 3 (Operand.tmp 29) (Operand.const (Value.int IntKind.i64 1)) 3,some (23,false)⟩,
 ⟨some 31,Op.binOp BinOp.neq 3 (Operand.tmp 26) (Operand.tmp 30) 3,some (23,false)⟩,
 ⟨some 32,Op.pick (Operand.tmp 23) (Operand.const (Value.bool true)) (Operand.tmp 31),none⟩])
 (.cond (Operand.tmp 32)
 (.seq
 (.region [] false ([]) [
 ⟨some 4,Op.assign (Operand.const (Value.bool false)),none⟩])
 .ret)
 .skip))
 (.seq
 (.seq
 (.region [] false ([]) [
 ⟨some 5,Op.assign (Operand.const (Value.int IntKind.i64 0)),none⟩])
 (.block 0
 (.loop
 (.seq
 (.seq
 (.region [] false ([]) [
 ⟨some 33,Op.move (Operand.tmp 5),none⟩,
 ⟨some 34,Op.fieldAddr 55 (Operand.tmp 3) 3,none⟩,
 ⟨some 35,Op.load 22 (Operand.tmp 34),none⟩,
 ⟨some 36,Op.call {callee:=Callee.builtin Builtin.len,args:=#[Operand.tmp 35],argTypes:=#[22]},none⟩,
 ⟨some 37,Op.binOp BinOp.lss 3 (Operand.tmp 33) (Operand.tmp 36) 3,none⟩])
 (.cond (Operand.tmp 37)
 .skip
 (.exit 0)))
 (.seq
 (.block 1
 (.seq
 (.region [45] false ([]) [
 ⟨some 40,Op.fieldAddr 55 (Operand.tmp 3) 3,none⟩,
 ⟨some 41,Op.load 22 (Operand.tmp 40),none⟩,
 ⟨some 42,Op.move (Operand.tmp 5),none⟩,
 ⟨some 43,Op.indexAddr 22 (Operand.tmp 41) (Operand.tmp 42),none⟩,
 ⟨some 44,Op.load 2 (Operand.tmp 43),none⟩,
 ⟨some 45,Op.call {callee:=Callee.value (Operand.func 42),args:=#[Operand.tmp 44],argTypes:=#[2]},none⟩,
 ⟨some 46,Op.unOp UnOp.not 4 (Operand.tmp 45),none⟩])
 (.cond (Operand.tmp 46)
 (.seq
 (.region [] false ([]) [
 ⟨some 4,Op.assign (Operand.const (Value.bool false)),none⟩])
 .ret)
 .skip)))
 (.region [] false ([]) [
 ⟨some 38,Op.move (Operand.tmp 5),none⟩,
 ⟨some 39,Op.binOp BinOp.add 3 (Operand.tmp 38) (Operand.const (Value.int IntKind.i64 1)) 3,none⟩,
 ⟨some 5,Op.assign (Operand.tmp 39),none⟩]))))))
 (.seq
 (.seq
 (.region [] false ([]) [
 ⟨some 6,Op.assign (Operand.const (Value.int IntKind.i64 0)),none⟩])
 (.block 2
 (.loop
 (.seq
 (.seq
 (.region [] false ([]) [
 ⟨some 47,Op.move (Operand.tmp 6),none⟩,
 ⟨some 48,Op.fieldAddr 55 (Operand.tmp 3) 2,none⟩,
 ⟨some 49,Op.load 22 (Operand.tmp 48),none⟩,
 ⟨some 50,Op.call {callee:=Callee.builtin Builtin.len,args:=#[Operand.tmp 49],argTypes:=#[22]},none⟩,
 ⟨some 51,Op.binOp BinOp.lss 3 (Operand.tmp 47) (Operand.tmp 50) 3,none⟩])
 (.cond (Operand.tmp 51)
 .skip
 (.exit 2)))
 (.seq
 (.block 3
 (.seq
 (.region [60] true ([]) [
 ⟨some 54,Op.load 35 (Operand.tmp 2),none⟩,
 ⟨some 55,Op.fieldAddr 55 (Operand.tmp 3) 2,none⟩,
 ⟨some 56,Op.load 22 (Operand.tmp 55),none⟩,
 ⟨some 57,Op.move (Operand.tmp 6),none⟩,
 ⟨some 58,Op.indexAddr 22 (Operand.tmp 56) (Operand.tmp 57),none⟩,
 ⟨some 59,Op.load 2 (Operand.tmp 58),none⟩,
 ⟨some 60,Op.call {callee:=Callee.value (Operand.func 70),args:=#[Operand.tmp 54,Operand.tmp 59],argTypes:=#[35,2]},none⟩,
 ⟨some 61,Op.unOp UnOp.not 4 (Operand.tmp 60),none⟩])
 (.cond (Operand.tmp 61)
 (.seq
 (.region [] false ([]) [
 ⟨some 4,Op.assign (Operand.const (Value.bool false)),none⟩])
 .ret)
 .skip)))
 (.region [] false ([]) [
 ⟨some 52,Op.move (Operand.tmp 6),none⟩,
 ⟨some 53,Op.binOp BinOp.add 3 (Operand.tmp 52) (Operand.const (Value.int IntKind.i64 1)) 3,none⟩,
 ⟨some 6,Op.assign (Operand.tmp 53),none⟩]))))))
 (.seq
 (.region [] false ([]) [
 ⟨some 4,Op.assign (Operand.const (Value.bool true)),none⟩])
 .ret)))))
set_option maxHeartbeats 2000000 in
theorem wayGood_c (n : Net) (w : Way) (hn : n.nodes.length ≤ 1048576) (h1 : w.lens.length ≤ 1048576) (h2 : w.nodes.length ≤ 1048576) :
    CallsF Tryd.prog 43 [.agg (encN n), .agg (encW w)] (.t (.v (.bool (decide (WOK n w))))) [] := by
  refine callsF_of_wp2 (fn := Tryd.f43) (k := k43) (fun _ => []) mixed (by kernel_rfl) rfl (by kernel_rfl) (by kernel_rfl) (by kernel_rfl) rfl (by simp [Tryd.f43]) (by simp [Arg.like]) ?_
  generalize hst : St.enter [.agg (encN n), .agg (encW w)] = st0
  have t0 : st0.tm 0 = .agg ((encN n) |>.map .t) := by rw [← hst]; rfl
  have t1 : st0.tm 1 = .agg ((encW w) |>.map .t) := by rw [← hst]; rfl
  clear hst
  unfold k43
  simp [encN] at t0
  simp [encW] at t1
  repeat' (first
   | refine wp2_seq fun K hK => ?_
   | refine M_cons fun K hK => ?_
   | (refine hK _ ?_; clear hK K)
   | (refine hX _ ?_; clear hX hY X Y)
   | (refine hY _ ?_; clear hX hY X Y)
   | refine wp2_block ?_
   | refine wp2_region ?_
   | refine wp2_cond fun X Y hX hY => ?_
   | (refine condK_of (fun c => ?_) (fun c => ?_) <;> (try simp [-List.length_eq_zero_iff] at c))
   | (refine guard1_or (fun c => ?_) (fun c => ?_) <;> (have cc := c) <;> (try simp [-List.length_eq_zero_iff] at cc) <;> (try simp (disch := omega) [t0, t1, c]))
   | (refine callT_fl (l1In_c _) (by simp [St.args, St.arg, t0, t1] <;> first | rfl | ((repeat' first | rfl | apply And.intro); first | done | fail)) ?_)
   | simp (maxSteps := 4000000) (disch := omega) [t0, t1])
  all_goals try (have hv : ¬ WOK n w := (fun h => by have e1 := h.id; have e2 := h.l1; have e3 := h.l2; have e4 := h.ln; first | omega | (simp_all; done)); simp [Back, hv]; done)
  simp only [decide_eq_true_eq, decide_eq_false_iff_not, bne_eq_false_iff_eq, Int.not_lt, Nat.not_lt, Bool.not_eq_false', Bool.not_eq_true'] at *
  have f1 : inR w.id := by first | assumption | (simp_all; done)
  have f2 : 1 ≤ w.lens.length := by omega
  have f3 : w.lens.length ≤ 100 := by omega
  have f4 : w.nodes.length = w.lens.length + 1 := by omega
  have hJ : (∀ i : Nat, i < w.lens.length → inR (rd w.lens i)) → ∀ s, s.tm 2 = .ptr (2, 0) 0 0 → s.ob (2, 0) = objN n → s.tm 3 = .ptr (3, 0) 0 0 → s.ob (3, 0) = objW w → K s := by
    intro f5 s s2 o2 s3 o3
    simp only [objN] at o2
    simp only [objW] at o3
    repeat' (first
     | refine wp2_seq fun K hK => ?_
     | refine M_cons fun K hK => ?_
     | (refine hK _ ?_; clear hK K)
     | refine wp2_block ?_
     | refine wp2_region ?_
     | simp (maxSteps := 4000000) (disch := omega) [s2, o2, s3, o3])
    have hJ : (∀ i : Nat, i < w.nodes.length → rd w.nodes i ∈ n.nodes) → ∀ s, K s := by
      intro f6 s
      have : WOK n w := ⟨f1, f2, f3, f4, f5, f6⟩
      repeat' (first
       | refine wp2_seq fun K hK => ?_
       | refine M_cons fun K hK => ?_
       | (refine hK _ ?_; clear hK K)
       | refine wp2_region ?_
       | simp (maxSteps := 4000000) (disch := omega) [this])
      all_goals try (simp [this, Back]; done)
    clear hK
    refine wp2_loop (fun m s => ∃ k : Nat, s.tm 2 = .ptr (2, 0) 0 0 ∧ s.ob (2, 0) = objN n ∧ s.tm 3 = .ptr (3, 0) 0 0 ∧ s.ob (3, 0) = objW w ∧ s.tm 6 = .t (.v (.int .i64 k)) ∧ k ≤ w.nodes.length ∧ m = w.nodes.length - k ∧ ∀ i : Nat, i < k → rd w.nodes i ∈ n.nodes) w.nodes.length ?_ ?_
    · exact ⟨0, by simp [s2, s3, o2, o3, objN, objW]⟩
    · rintro m s ⟨k, s2, o2, s3, o3, s6, hk, rfl, hq⟩ K' hK'
      simp only [objN] at o2
      simp only [objW] at o3
      repeat' (first
       | refine wp2_seq fun K hK => ?_
       | refine M_cons fun K hK => ?_
       | (refine hK _ ?_; clear hK K)
       | (refine hX _ ?_; clear hX hY X Y)
       | (refine hY _ ?_; clear hX hY X Y)
       | refine wp2_block ?_
       | refine wp2_region ?_
       | refine wp2_cond fun X Y hX hY => ?_
       | (refine condK_of (fun c => ?_) (fun c => ?_) <;> (try simp [-List.length_eq_zero_iff] at c))
       | (refine callT_fl (hasNode_c n _ hn) (by simp [St.args, St.arg, s2, o2, s3, o3, s6, encN] <;> first | rfl | ((repeat' first | rfl | apply And.intro); first | done | fail)) ?_)
       | simp (maxSteps := 4000000) (disch := omega) [s2, o2, s3, o3, s6, encN])
      all_goals first
        | omega
        | (have hv : ¬ WOK n w := fun h => by have := h.ns k (by assumption); first | contradiction | (simp_all; done)
           simp [Back, hv]; done)
        | (refine hK' (w.nodes.length - (k + 1)) _ (by omega) ⟨k + 1, ?_⟩
           simp [s2, o2, s3, o3, objN, objW]
           exact ⟨by omega, below_succ (p := fun i : Nat => rd w.nodes i ∈ n.nodes) hq (by first | assumption | (simp_all; done))⟩)
        | exact hJ (fun i hi => hq i (by omega)) _
        | skip
  clear hK
  refine wp2_loop (fun m s => ∃ k : Nat, s.tm 2 = .ptr (2, 0) 0 0 ∧ s.ob (2, 0) = objN n ∧ s.tm 3 = .ptr (3, 0) 0 0 ∧ s.ob (3, 0) = objW w ∧ s.tm 5 = .t (.v (.int .i64 k)) ∧ k ≤ w.lens.length ∧ m = w.lens.length - k ∧ ∀ i : Nat, i < k → inR (rd w.lens i)) w.lens.length ?_ ?_
  · exact ⟨0, by simp [t0, t1, objN, objW]⟩
  · rintro m s ⟨k, s2, o2, s3, o3, s5, hk, rfl, hq⟩ K' hK'
    simp only [objN] at o2
    simp only [objW] at o3
    repeat' (first
     | refine wp2_seq fun K hK => ?_
     | refine M_cons fun K hK => ?_
     | (refine hK _ ?_; clear hK K)
     | (refine hX _ ?_; clear hX hY X Y)
     | (refine hY _ ?_; clear hX hY X Y)
     | refine wp2_block ?_
     | refine wp2_region ?_
     | refine wp2_cond fun X Y hX hY => ?_
     | (refine condK_of (fun c => ?_) (fun c => ?_) <;> (try simp [-List.length_eq_zero_iff] at c))
     | (refine callT_fl (l1In_c _) (by simp [St.args, St.arg, s2, o2, s3, o3, s5] <;> first | rfl | ((repeat' first | rfl | apply And.intro); first | done | fail)) ?_)
     | simp (maxSteps := 4000000) (disch := omega) [s2, o2, s3, o3, s5])
    all_goals first
      | omega
      | (have hv : ¬ WOK n w := fun h => by have := h.ls k (by assumption); first | contradiction | (simp_all; done)
         simp [Back, hv]; done)
      | (refine hK' (w.lens.length - (k + 1)) _ (by omega) ⟨k + 1, ?_⟩
         simp [s2, o2, s3, o3, objN, objW]
         exact ⟨by omega, below_succ (p := fun i : Nat => inR (rd w.lens i)) hq (by first | assumption | (simp_all; done))⟩)
      | exact hJ (fun i hi => hq i (by omega)) _ (by simp [s2]) (by simp [o2, objN]) (by simp [s3]) (by simp [o3, objW])
      | skip
/-- A relation is right. -/
structure ROK (n : Net) (r : Rln) : Prop where
  id : inR r.id
  fr : isWay n.ways r.fr
  to : isWay n.ways r.to
  at1 : r.atNode = true → r.via.length = 0 ∧ r.node ∈ n.nodes
  at0 : r.atNode = false → r.node = 0 ∧ 1 ≤ r.via.length ∧ r.via.length ≤ 4 ∧ ∀ i : Nat, i < r.via.length → isWay n.ways (rd r.via i)
noncomputable instance (n : Net) (r : Rln) : Decidable (ROK n r) := Classical.propDecidable _
/-- The code of spec.l1RelationGood. -/
def k45 : Code1 :=
 (.seq
 (.region [2,3] false ([]) [
 ⟨some 2,Op.box 35 (Operand.tmp 0),none⟩,
 ⟨some 3,Op.box 58 (Operand.tmp 1),none⟩,
 ⟨some 4,Op.assign (Operand.const (Value.bool false)),none⟩])
 (.seq
 (.seq
 (.region [8,14,21] false ([]) [
 ⟨some 6,Op.fieldAddr 58 (Operand.tmp 3) 0,none⟩,
 ⟨some 7,Op.load 2 (Operand.tmp 6),none⟩,
 ⟨some 8,Op.call {callee:=Callee.value (Operand.func 42),args:=#[Operand.tmp 7],argTypes:=#[2]},none⟩,
 ⟨some 9,Op.unOp UnOp.not 4 (Operand.tmp 8),none⟩,
 ⟨some 10,Op.move (Operand.tmp 9),none⟩,
 ⟨some 11,Op.load 35 (Operand.tmp 2),some (10,false)⟩,
 ⟨some 12,Op.fieldAddr 58 (Operand.tmp 3) 2,some (10,false)⟩,
 ⟨some 13,Op.load 2 (Operand.tmp 12),some (10,false)⟩,
 ⟨some 14,Op.call {callee:=Callee.value (Operand.func 46),args:=#[Operand.tmp 11,Operand.tmp 13],argTypes:=#[35,2]},some (10,false)⟩,
 ⟨some 15,Op.binOp BinOp.lss 3 (Operand.tmp 14) (Operand.const (Value.int IntKind.i64 0)) 3,some (10,false)⟩,
 ⟨some 16,Op.pick (Operand.tmp 10) (Operand.const (Value.bool true)) (Operand.tmp 15),none⟩,
 ⟨some 17,Op.move (Operand.tmp 16),none⟩,
 ⟨some 18,Op.load 35 (Operand.tmp 2),some (17,false)⟩,
 ⟨some 19,Op.fieldAddr 58 (Operand.tmp 3) 3,some (17,false)⟩,
 ⟨some 20,Op.load 2 (Operand.tmp 19),some (17,false)⟩,
 ⟨some 21,Op.call {callee:=Callee.value (Operand.func 46),args:=#[Operand.tmp 18,Operand.tmp 20],argTypes:=#[35,2]},some (17,false)⟩,
 ⟨some 22,Op.binOp BinOp.lss 3 (Operand.tmp 21) (Operand.const (Value.int IntKind.i64 0)) 3,some (17,false)⟩,
 ⟨some 23,Op.pick (Operand.tmp 17) (Operand.const (Value.bool true)) (Operand.tmp 22),none⟩])
 (.cond (Operand.tmp 23)
 (.seq
 (.region [] false ([]) [
 ⟨some 4,Op.assign (Operand.const (Value.bool false)),none⟩])
 .ret)
 .skip))
 (.seq
 (.seq
 (.region [] false ([]) [
 ⟨some 24,Op.fieldAddr 58 (Operand.tmp 3) 4,none⟩,
 ⟨some 25,Op.load 4 (Operand.tmp 24),none⟩])
 (.cond (Operand.tmp 25)
 (.seq
 (.region [34] false ([]) [
 ⟨some 26,Op.fieldAddr 58 (Operand.tmp 3) 6,none⟩,
 ⟨some 27,Op.load 22 (Operand.tmp 26),none⟩,
 ⟨some 28,Op.call {callee:=Callee.builtin Builtin.len,args:=#[Operand.tmp 27],argTypes:=#[22]},none⟩,
 ⟨some 29,Op.binOp BinOp.eql 3 (Operand.tmp 28) (Operand.const (Value.int IntKind.i64 0)) 3,none⟩,
 ⟨some 30,Op.move (Operand.tmp 29),none⟩,
 ⟨some 31,Op.load 35 (Operand.tmp 2),some (30,true)⟩,
 ⟨some 32,Op.fieldAddr 58 (Operand.tmp 3) 5,some (30,true)⟩,
 ⟨some 33,Op.load 2 (Operand.tmp 32),some (30,true)⟩,
 ⟨some 34,Op.call {callee:=Callee.value (Operand.func 70),args:=#[Operand.tmp 31,Operand.tmp 33],argTypes:=#[35,2]},some (30,true)⟩,
 ⟨some 35,Op.pick (Operand.tmp 30) (Operand.tmp 34) (Operand.const (Value.bool false)),none⟩,
 ⟨some 4,Op.assign (Operand.tmp 35),none⟩])
 .ret)
 .skip))
 (.seq
 (.seq
 (.region [] false ([]) [
 ⟨some 36,Op.fieldAddr 58 (Operand.tmp 3) 5,none⟩,
 ⟨some 37,Op.load 2 (Operand.tmp 36),none⟩,
 ⟨some 38,Op.binOp BinOp.neq 2 (Operand.tmp 37) (Operand.const (Value.int IntKind.i64 0)) 2,none⟩,
 ⟨some 39,Op.move (Operand.tmp 38),none⟩,
 ⟨some 40,Op.fieldAddr 58 (Operand.tmp 3) 6,some (39,false)⟩,
 ⟨some 41,Op.load 22 (Operand.tmp 40),some (39,false)⟩,
 ⟨some 42,Op.call {callee:=Callee.builtin Builtin.len,args:=#[Operand.tmp 41],argTypes:=#[22]},some (39,false)⟩,
 ⟨some 43,Op.binOp BinOp.lss 3 (Operand.tmp 42) (Operand.const (Value.int IntKind.i64 1)) 3,some (39,false)⟩,
 ⟨some 44,Op.pick (Operand.tmp 39) (Operand.const (Value.bool true)) (Operand.tmp 43),none⟩,
 ⟨some 45,Op.move (Operand.tmp 44),none⟩,
 ⟨some 46,Op.fieldAddr 58 (Operand.tmp 3) 6,some (45,false)⟩,
 ⟨some 47,Op.load 22 (Operand.tmp 46),some (45,false)⟩,
 ⟨some 48,Op.call {callee:=Callee.builtin Builtin.len,args:=#[Operand.tmp 47],argTypes:=#[22]},some (45,false)⟩,
 ⟨some 49,Op.binOp BinOp.gtr 3 (Operand.tmp 48) (Operand.const (Value.int IntKind.i64 4)) 3,some (45,false)⟩,
 ⟨some 50,Op.pick (Operand.tmp 45) (Operand.const (Value.bool true)) (Operand.tmp 49),none⟩])
 (.cond (Operand.tmp 50)
 (.seq
 (.region [] false ([]) [
 ⟨some 4,Op.assign (Operand.const (Value.bool false)),none⟩])
 .ret)
 .skip))
 (.seq
 (.seq
 (.region [] false ([]) [
 ⟨some 5,Op.assign (Operand.const (Value.int IntKind.i64 0)),none⟩])
 (.block 0
 (.loop
 (.seq
 (.seq
 (.region [] false ([]) [
 ⟨some 51,Op.move (Operand.tmp 5),none⟩,
 ⟨some 52,Op.fieldAddr 58 (Operand.tmp 3) 6,none⟩,
 ⟨some 53,Op.load 22 (Operand.tmp 52),none⟩,
 ⟨some 54,Op.call {callee:=Callee.builtin Builtin.len,args:=#[Operand.tmp 53],argTypes:=#[22]},none⟩,
 ⟨some 55,Op.binOp BinOp.lss 3 (Operand.tmp 51) (Operand.tmp 54) 3,none⟩])
 (.cond (Operand.tmp 55)
 .skip
 (.exit 0)))
 (.seq
 (.block 1
 (.seq
 (.region [64] true ([]) [
 ⟨some 58,Op.load 35 (Operand.tmp 2),none⟩,
 ⟨some 59,Op.fieldAddr 58 (Operand.tmp 3) 6,none⟩,
 ⟨some 60,Op.load 22 (Operand.tmp 59),none⟩,
 ⟨some 61,Op.move (Operand.tmp 5),none⟩,
 ⟨some 62,Op.indexAddr 22 (Operand.tmp 60) (Operand.tmp 61),none⟩,
 ⟨some 63,Op.load 2 (Operand.tmp 62),none⟩,
 ⟨some 64,Op.call {callee:=Callee.value (Operand.func 46),args:=#[Operand.tmp 58,Operand.tmp 63],argTypes:=#[35,2]},none⟩,
 ⟨some 65,Op.binOp BinOp.lss 3 (Operand.tmp 64) (Operand.const (Value.int IntKind.i64 0)) 3,none⟩])
 (.cond (Operand.tmp 65)
 (.seq
 (.region [] false ([]) [
 ⟨some 4,Op.assign (Operand.const (Value.bool false)),none⟩])
 .ret)
 .skip)))
 (.region [] false ([]) [
 ⟨some 56,Op.move (Operand.tmp 5),none⟩,
 ⟨some 57,Op.binOp BinOp.add 3 (Operand.tmp 56) (Operand.const (Value.int IntKind.i64 1)) 3,none⟩,
 ⟨some 5,Op.assign (Operand.tmp 57),none⟩]))))))
 (.seq
 (.region [] false ([]) [
 ⟨some 4,Op.assign (Operand.const (Value.bool true)),none⟩])
 .ret))))))
set_option maxHeartbeats 2000000 in
theorem relGood_c (n : Net) (r : Rln) (hn : n.nodes.length ≤ 1048576) (hw : n.ways.length ≤ 1048576) (h1 : r.via.length ≤ 1048576) :
    CallsF Tryd.prog 45 [.agg (encN n), .agg (encR r)] (.t (.v (.bool (decide (ROK n r))))) [] := by
  refine callsF_of_wp2 (fn := Tryd.f45) (k := k45) (fun _ => []) mixed (by kernel_rfl) rfl (by kernel_rfl) (by kernel_rfl) (by kernel_rfl) rfl (by simp [Tryd.f45]) (by simp [Arg.like]) ?_
  generalize hst : St.enter [.agg (encN n), .agg (encR r)] = st0
  have t0 : st0.tm 0 = .agg ((encN n) |>.map .t) := by rw [← hst]; rfl
  have t1 : st0.tm 1 = .agg ((encR r) |>.map .t) := by rw [← hst]; rfl
  clear hst
  unfold k45
  simp [encN] at t0
  simp [encR] at t1
  have ea := wayAt_iff (l := n.ways) (x := r.fr)
  have eb := wayAt_iff (l := n.ways) (x := r.to)
  have key : ROK n r ↔ inR r.id ∧ ¬ wayAt n.ways r.fr < 0 ∧ ¬ wayAt n.ways r.to < 0 ∧ (r.atNode = true → r.via.length = 0 ∧ r.node ∈ n.nodes) ∧ (r.atNode = false → r.node = 0 ∧ 1 ≤ r.via.length ∧ r.via.length ≤ 4 ∧ ∀ i : Nat, i < r.via.length → isWay n.ways (rd r.via i)) := by
    rw [ea, eb, Decidable.not_not, Decidable.not_not]
    exact ⟨fun h => ⟨h.id, h.fr, h.to, h.at1, h.at0⟩, fun ⟨a, b, c, d, e⟩ => ⟨a, b, c, d, e⟩⟩
  clear ea eb
  cases ht : r.atNode with
  | true =>
    rw [ht] at key t1
    simp only [forall_const, Bool.true_eq_false, false_imp_iff, and_true, true_implies, false_implies, reduceCtorEq] at key
    repeat' (first
     | refine wp2_seq fun K hK => ?_
     | refine M_cons fun K hK => ?_
     | (refine hK _ ?_; clear hK K)
     | (refine hX _ ?_; clear hX hY X Y)
     | (refine hY _ ?_; clear hX hY X Y)
     | refine wp2_region ?_
     | refine wp2_cond fun X Y hX hY => ?_
     | (refine condK_of (fun c => ?_) (fun c => ?_) <;> (try simp [-List.length_eq_zero_iff] at c))
     | (refine guard1_or (fun c => ?_) (fun c => ?_) <;> (have cc := c) <;> (try simp [-List.length_eq_zero_iff] at cc) <;> (try simp (disch := omega) [t0, t1, encN, c]))
     | (refine callT_fl (l1In_c _) (by simp [St.args, St.arg, t0, t1, encN] <;> first | rfl | ((repeat' first | rfl | apply And.intro); first | done | fail)) ?_)
     | (refine callT_fl (wayAt_c n _ hw) (by simp [St.args, St.arg, t0, t1, encN] <;> first | rfl | ((repeat' first | rfl | apply And.intro); first | done | fail)) ?_)
     | (refine callT_fl (hasNode_c n _ hn) (by simp [St.args, St.arg, t0, t1, encN] <;> first | rfl | ((repeat' first | rfl | apply And.intro); first | done | fail)) ?_)
     | simp (maxSteps := 4000000) (disch := omega) [t0, t1, encN])
    all_goals try (have hv : ¬ ROK n r := (fun h => by
      have e := key.1 h
      obtain ⟨e1, e2, e3, e4, e5⟩ := e
      simp only [Bool.not_eq_true', Bool.not_eq_false', decide_eq_true_eq, decide_eq_false_iff_not, bne_iff_ne, ne_eq] at *
      first | omega | contradiction | (simp_all; done)); simp [Back, hv]; done)
    all_goals try (have hv : ROK n r := (key.2 (by
      simp only [Bool.not_eq_true', Bool.not_eq_false', decide_eq_true_eq, decide_eq_false_iff_not, bne_iff_ne, ne_eq] at *
      first | (refine ⟨?_, ?_, ?_, ?_, ?_⟩ <;> first | omega | assumption | (simp_all; done)) | (simp_all; done))); simp [Back, hv]; done)
    all_goals
      simp only [Bool.not_eq_true', Bool.not_eq_false', decide_eq_true_eq, decide_eq_false_iff_not, bne_iff_ne, ne_eq] at *
      have hv : ROK n r ↔ r.node ∈ n.nodes := key.trans ⟨fun h => by first | exact h.2.2.2.2 | (simp_all; done), fun h => by refine ⟨by assumption, by omega, by omega, by omega, h⟩⟩
      simp [Back, hv]
  | false =>
    rw [ht] at key t1
    simp only [forall_const, Bool.false_eq_true, true_and, and_true, true_implies, false_implies, reduceCtorEq] at key
    repeat' (first
     | refine wp2_seq fun K hK => ?_
     | refine M_cons fun K hK => ?_
     | (refine hK _ ?_; clear hK K)
     | (refine hX _ ?_; clear hX hY X Y)
     | (refine hY _ ?_; clear hX hY X Y)
     | refine wp2_block ?_
     | refine wp2_region ?_
     | refine wp2_cond fun X Y hX hY => ?_
     | (refine condK_of (fun c => ?_) (fun c => ?_) <;> (try simp [-List.length_eq_zero_iff] at c))
     | (refine guard1_or (fun c => ?_) (fun c => ?_) <;> (have cc := c) <;> (try simp [-List.length_eq_zero_iff] at cc) <;> (try simp (disch := omega) [t0, t1, encN, c]))
     | (refine callT_fl (l1In_c _) (by simp [St.args, St.arg, t0, t1, encN] <;> first | rfl | ((repeat' first | rfl | apply And.intro); first | done | fail)) ?_)
     | (refine callT_fl (wayAt_c n _ hw) (by simp [St.args, St.arg, t0, t1, encN] <;> first | rfl | ((repeat' first | rfl | apply And.intro); first | done | fail)) ?_)
     | simp (maxSteps := 4000000) (disch := omega) [t0, t1, encN])
    all_goals try (have hv : ¬ ROK n r := (fun h => by
      have e := key.1 h
      obtain ⟨e1, e2, e3, e4, e5, e6, e7⟩ := e
      simp only [Bool.not_eq_true', Bool.not_eq_false', decide_eq_true_eq, decide_eq_false_iff_not, bne_iff_ne, ne_eq] at *
      first | omega | contradiction | (simp_all; done)); simp [Back, hv]; done)
    simp only [Bool.not_eq_true', Bool.not_eq_false', decide_eq_true_eq, decide_eq_false_iff_not, bne_iff_ne, bne_eq_false_iff_eq, ne_eq] at *
    have f1 : inR r.id := by assumption
    have f2 : ¬ wayAt n.ways r.fr < 0 := by omega
    have f3 : ¬ wayAt n.ways r.to < 0 := by omega
    have f4 : r.node = 0 := by omega
    have f5 : 1 ≤ r.via.length := by omega
    have f6 : r.via.length ≤ 4 := by omega
    have hJ : (∀ i : Nat, i < r.via.length → isWay n.ways (rd r.via i)) → ∀ s, K s := by
      intro f7 s
      have : ROK n r := key.2 ⟨f1, f2, f3, f4, f5, f6, f7⟩
      repeat' (first
       | refine wp2_seq fun K hK => ?_
       | refine M_cons fun K hK => ?_
       | (refine hK _ ?_; clear hK K)
       | refine wp2_region ?_
       | simp (maxSteps := 4000000) (disch := omega) [this])
      all_goals try (simp [this, Back]; done)
    clear hK
    refine wp2_loop (fun m s => ∃ k : Nat, s.tm 2 = .ptr (2, 0) 0 0 ∧ s.ob (2, 0) = objN n ∧ s.tm 3 = .ptr (3, 0) 0 0 ∧ s.ob (3, 0) = objR r ∧ s.tm 5 = .t (.v (.int .i64 k)) ∧ k ≤ r.via.length ∧ m = r.via.length - k ∧ ∀ i : Nat, i < k → isWay n.ways (rd r.via i)) r.via.length ?_ ?_
    · exact ⟨0, by simp [t0, t1, objN, objR, ht]⟩
    · rintro m s ⟨k, s2, o2, s3, o3, s5, hk, rfl, hq⟩ K' hK'
      simp only [objN] at o2
      simp only [objR] at o3
      have ec := wayAt_iff (l := n.ways) (x := rd r.via k)
      repeat' (first
       | refine wp2_seq fun K hK => ?_
       | refine M_cons fun K hK => ?_
       | (refine hK _ ?_; clear hK K)
       | (refine hX _ ?_; clear hX hY X Y)
       | (refine hY _ ?_; clear hX hY X Y)
       | refine wp2_block ?_
       | refine wp2_region ?_
       | refine wp2_cond fun X Y hX hY => ?_
       | (refine condK_of (fun c => ?_) (fun c => ?_) <;> (try simp [-List.length_eq_zero_iff] at c))
       | (refine callT_fl (wayAt_c n _ hw) (by simp [St.args, St.arg, s2, o2, s3, o3, s5, encN] <;> first | rfl | ((repeat' first | rfl | apply And.intro); first | done | fail)) ?_)
       | simp (maxSteps := 4000000) (disch := omega) [s2, o2, s3, o3, s5, encN])
      all_goals first
        | omega
        | (have hv : ¬ ROK n r := fun h => by
             have := (key.1 h).2.2.2.2.2.2 k (by assumption)
             exact ec.1 (by assumption) this
           simp [Back, hv]; done)
        | (refine hK' (r.via.length - (k + 1)) _ (by omega) ⟨k + 1, ?_⟩
           simp [s2, o2, s3, o3, objN, objR]
           exact ⟨by omega, below_succ (p := fun i : Nat => isWay n.ways (rd r.via i)) hq (Decidable.not_not.1 fun hh => by have := ec.2 hh; omega)⟩)
        | exact hJ (fun i hi => hq i (by omega)) _
        | skip
end Cal

set_option linter.unusedSimpArgs false
set_option linter.unusedVariables false
namespace Cal
open Go Go.Proofs
set_option maxRecDepth 100000
def sumE (l : List Way) : Nat → Int
  | 0 => 0
  | k + 1 => sumE l k + edgesW (nth l k)
theorem edgesW_le {w : Way} (h : w.lens.length ≤ 1048576) : 0 ≤ edgesW w ∧ edgesW w ≤ 2097152 := by
  unfold edgesW
  split <;> omega
theorem sumE_le {l : List Way} (h : ∀ i : Nat, i < l.length → (nth l i).lens.length ≤ 1048576) : ∀ k : Nat, k ≤ l.length → 0 ≤ sumE l k ∧ sumE l k ≤ 2097152 * k
  | 0, _ => by simp [sumE]
  | k + 1, hk => by
    have ih := sumE_le h k (by omega)
    have := edgesW_le (h k (by omega))
    unfold sumE
    omega
/-- The code of impl.edgesOf. -/
def k48 : Code1 :=
 (.seq
 (.region [] false ([]) [
 ⟨some 2,Op.assign (Operand.const (Value.int IntKind.i64 0)),none⟩])
 (.seq
 (.region [] false ([]) [
 ⟨some 3,Op.assign (Operand.const (Value.int IntKind.i64 0)),none⟩])
 (.seq
 (.seq
 (.region [] false ([]) [
 ⟨some 6,Op.move (Operand.tmp 0),none⟩,
 ⟨some 7,Op.call {callee:=Callee.builtin Builtin.len,args:=#[Operand.tmp 6],argTypes:=#[31]},none⟩,
 ⟨some 8,Op.move (Operand.const (Value.int IntKind.i64 0)),none⟩])
 (.block 0
 (.loop
 (.seq
 (.region [] false ([]) [
 ⟨some 9,Op.binOp BinOp.lss 3 (Operand.tmp 8) (Operand.tmp 7) 3,none⟩])
 (.seq
 (.cond (Operand.tmp 9)
 .skip
 (.exit 0))
 (.seq
 (.block 1
 (.seq
 (.region [5] false ([]) [
 ⟨some 10,Op.indexAddr 31 (Operand.tmp 6) (Operand.tmp 8),none⟩,
 ⟨some 11,Op.load 55 (Operand.tmp 10),none⟩,
 ⟨some 5,Op.alloc 55,none⟩,
 ⟨none,Op.store 55 (Operand.tmp 5) (Operand.tmp 11),none⟩])
 (.seq
 (.region [] false ([]) [
 ⟨some 12,Op.move (Operand.tmp 3),none⟩,
 ⟨some 13,Op.fieldAddr 55 (Operand.tmp 5) 3,none⟩,
 ⟨some 14,Op.load 22 (Operand.tmp 13),none⟩,
 ⟨some 15,Op.call {callee:=Callee.builtin Builtin.len,args:=#[Operand.tmp 14],argTypes:=#[22]},none⟩,
 ⟨some 16,Op.binOp BinOp.add 3 (Operand.tmp 12) (Operand.tmp 15) 3,none⟩,
 ⟨some 3,Op.assign (Operand.tmp 16),none⟩])
 (.seq
 (.region [] false ([]) [
 ⟨some 17,Op.fieldAddr 55 (Operand.tmp 5) 1,none⟩,
 ⟨some 18,Op.load 4 (Operand.tmp 17),none⟩])
 (.cond (Operand.tmp 18)
 (.region [] false ([]) [
 ⟨some 19,Op.move (Operand.tmp 3),none⟩,
 ⟨some 20,Op.fieldAddr 55 (Operand.tmp 5) 3,none⟩,
 ⟨some 21,Op.load 22 (Operand.tmp 20),none⟩,
 ⟨some 22,Op.call {callee:=Callee.builtin Builtin.len,args:=#[Operand.tmp 21],argTypes:=#[22]},none⟩,
 ⟨some 23,Op.binOp BinOp.add 3 (Operand.tmp 19) (Operand.tmp 22) 3,none⟩,
 ⟨some 3,Op.assign (Operand.tmp 23),none⟩])
 .skip)))))
 (.region [] false ([]) [
 ⟨some 24,Op.binOp BinOp.add 3 (Operand.tmp 8) (Operand.const (Value.int IntKind.i64 1)) 3,none⟩,
 ⟨some 8,Op.move (Operand.tmp 24),none⟩])))))))
 (.seq
 (.region [] false ([]) [
 ⟨some 25,Op.move (Operand.tmp 3),none⟩,
 ⟨some 2,Op.assign (Operand.tmp 25),none⟩])
 .ret))))
set_option maxHeartbeats 2000000 in
theorem edgesOf_c (l : List Way) (hl : l.length ≤ 1048576) (h : ∀ i : Nat, i < l.length → (nth l i).lens.length ≤ 1048576) :
    CallsF Tryd.prog 48 [.val (recs encW l)] (.t (.v (.int .i64 (sumE l l.length)))) [] := by
  refine callsF_of_wp2 (fn := Tryd.f48) (k := k48) (fun _ => []) mixed (by kernel_rfl) rfl (by kernel_rfl) (by kernel_rfl) (by kernel_rfl) rfl (by simp [Tryd.f48]) (by simp [Arg.like]) ?_
  generalize hst : St.enter [.val (recs encW l)] = st0
  have t0 : st0.tm 0 = .t (recs encW l) := by rw [← hst]; rfl
  clear hst
  unfold k48
  repeat' (first
   | refine wp2_seq fun K hK => ?_
   | refine M_cons fun K hK => ?_
   | (refine hK _ ?_; clear hK K)
   | refine wp2_block ?_
   | refine wp2_region ?_
   | simp (maxSteps := 4000000) (disch := omega) [t0])
  have hJ : ∀ s, s.tm 3 = .t (.v (.int .i64 (sumE l l.length))) → K s := by
    intro s s3
    repeat' (first
     | refine wp2_seq fun K hK => ?_
     | refine M_cons fun K hK => ?_
     | (refine hK _ ?_; clear hK K)
     | refine wp2_region ?_
     | simp (maxSteps := 4000000) (disch := omega) [s3])
    all_goals try (simp [s3, Back]; done)
  clear hK
  refine wp2_loop (fun m s => ∃ k : Nat, s.tm 6 = .t (recs encW l) ∧ s.tm 7 = .t (.v (.int .i64 l.length)) ∧ s.tm 8 = .t (.v (.int .i64 k)) ∧ s.tm 3 = .t (.v (.int .i64 (sumE l k))) ∧ k ≤ l.length ∧ m = l.length - k) l.length ?_ ?_
  · exact ⟨0, by simp [t0, sumE]⟩
  · rintro m s ⟨k, s6, s7, s8, s3, hk, rfl⟩ K' hK'
    have b1 := sumE_le h k hk
    by_cases hlt : k < l.length
    · have b2 := h k hlt
      cases ht : (nth l k).two with
      | true =>
        have e : sumE l (k + 1) = sumE l k + (nth l k).lens.length + (nth l k).lens.length := by
          have : edgesW (nth l k) = 2 * (nth l k).lens.length := if_pos ht
          rw [sumE, this]
          omega
        repeat' (first
         | refine wp2_seq fun K hK => ?_
         | refine M_cons fun K hK => ?_
         | (refine hK _ ?_; clear hK K)
         | (refine hX _ ?_; clear hX hY X Y)
         | (refine hY _ ?_; clear hX hY X Y)
         | refine wp2_block ?_
         | refine wp2_region ?_
         | refine wp2_cond fun X Y hX hY => ?_
         | (refine condK_of (fun c => ?_) (fun c => ?_) <;> (try simp [-List.length_eq_zero_iff] at c))
         | simp (maxSteps := 4000000) (disch := omega) [s6, s7, s8, s3, encW, ht])
        all_goals first
          | omega
          | (refine hK' (l.length - (k + 1)) _ (by omega) ⟨k + 1, ?_⟩
             simp [s6, s7, e]
             omega)
      | false =>
        have e : sumE l (k + 1) = sumE l k + (nth l k).lens.length := by
          have : edgesW (nth l k) = (nth l k).lens.length := if_neg (by rw [ht]; simp)
          rw [sumE, this]
        repeat' (first
         | refine wp2_seq fun K hK => ?_
         | refine M_cons fun K hK => ?_
         | (refine hK _ ?_; clear hK K)
         | (refine hX _ ?_; clear hX hY X Y)
         | (refine hY _ ?_; clear hX hY X Y)
         | refine wp2_block ?_
         | refine wp2_region ?_
         | refine wp2_cond fun X Y hX hY => ?_
         | (refine condK_of (fun c => ?_) (fun c => ?_) <;> (try simp [-List.length_eq_zero_iff] at c))
         | simp (maxSteps := 4000000) (disch := omega) [s6, s7, s8, s3, encW, ht])
        all_goals first
          | omega
          | (refine hK' (l.length - (k + 1)) _ (by omega) ⟨k + 1, ?_⟩
             simp [s6, s7, e]
             omega)
    · have hkl : k = l.length := by omega
      subst hkl
      repeat' (first
       | refine wp2_seq fun K hK => ?_
       | refine M_cons fun K hK => ?_
       | (refine hK _ ?_; clear hK K)
       | (refine hY _ ?_; clear hX hY X Y)
       | refine wp2_region ?_
       | refine wp2_cond fun X Y hX hY => ?_
       | (refine condK_of (fun c => ?_) (fun c => ?_) <;> (try simp [-List.length_eq_zero_iff] at c))
       | simp (maxSteps := 4000000) (disch := omega) [s6, s7, s8, s3])
      all_goals first
        | omega
        | exact hJ _ (by simp [s3])
/-! a valid network -/
def NdI (n : Net) (i : Nat) : Prop := inR (rd n.nodes i) ∧ (0 < i → rd n.nodes ((i : Int) - 1) < rd n.nodes i)
def WyI (n : Net) (i : Nat) : Prop := WOK n (nth n.ways i) ∧ (0 < i → (nth n.ways ((i : Int) - 1)).id < (nth n.ways i).id)
def RlI (n : Net) (i : Nat) : Prop := ROK n (nth n.rels i) ∧ (0 < i → (nth n.rels ((i : Int) - 1)).id < (nth n.rels i).id)
def TCOK (n : Net) (t : Tc) : Prop := inR t.cost ∧ isWay n.ways t.fr ∧ isWay n.ways t.to
def TcI (n : Net) (i : Nat) : Prop := TCOK n (nth n.tcs i) ∧ (0 < i → (nth n.tcs ((i : Int) - 1)).fr < (nth n.tcs i).fr ∨ ((nth n.tcs ((i : Int) - 1)).fr = (nth n.tcs i).fr ∧ (nth n.tcs ((i : Int) - 1)).to < (nth n.tcs i).to))
structure VNet (n : Net) : Prop where
  u : inR n.uturn
  c1 : n.nodes.length ≤ 2000
  c2 : n.ways.length ≤ 2000
  c3 : n.rels.length ≤ 1000
  c4 : n.tcs.length ≤ 2000
  ni : ∀ i : Nat, i < n.nodes.length → NdI n i
  wi : ∀ i : Nat, i < n.ways.length → WyI n i
  es : sumE n.ways n.ways.length ≤ 4000
  ri : ∀ i : Nat, i < n.rels.length → RlI n i
  ti : ∀ i : Nat, i < n.tcs.length → TcI n i
noncomputable instance (n : Net) : Decidable (VNet n) := Classical.propDecidable _
end Cal

set_option linter.unusedSimpArgs false
set_option linter.unusedVariables false
namespace Cal
open Go Go.Proofs
set_option maxRecDepth 100000
/-- The body of a loop. -/
def k15_l0 : Code1 :=
 (.seq
 (.seq
 (.region [] false ([]) [
 ⟨some 38,Op.move (Operand.tmp 3),none⟩,
 ⟨some 39,Op.fieldAddr 35 (Operand.tmp 1) 0,none⟩,
 ⟨some 40,Op.load 22 (Operand.tmp 39),none⟩,
 ⟨some 41,Op.call {callee:=Callee.builtin Builtin.len,args:=#[Operand.tmp 40],argTypes:=#[22]},none⟩,
 ⟨some 42,Op.binOp BinOp.lss 3 (Operand.tmp 38) (Operand.tmp 41) 3,none⟩])
 (.cond (Operand.tmp 42)
 .skip
 (.exit 0)))
 (.seq
 (.block 1
 (.seq
 (.region [50] true ([]) [
 ⟨some 45,Op.fieldAddr 35 (Operand.tmp 1) 0,none⟩,
 ⟨some 46,Op.load 22 (Operand.tmp 45),none⟩,
 ⟨some 47,Op.move (Operand.tmp 3),none⟩,
 ⟨some 48,Op.indexAddr 22 (Operand.tmp 46) (Operand.tmp 47),none⟩,
 ⟨some 49,Op.load 2 (Operand.tmp 48),none⟩,
 ⟨some 50,Op.call {callee:=Callee.value (Operand.func 42),args:=#[Operand.tmp 49],argTypes:=#[2]},none⟩,
 ⟨some 51,Op.unOp UnOp.not 4 (Operand.tmp 50),none⟩,
 ⟨some 52,Op.move (Operand.tmp 51),none⟩,
 ⟨some 53,Op.move (Operand.tmp 3),some (52,false)⟩,
 ⟨some 54,Op.binOp BinOp.gtr 3 (Operand.tmp 53) (Operand.const (Value.int IntKind.i64 0)) 3,some (52,false)⟩,
 ⟨some 55,Op.move (Operand.tmp 54),some (52,false)⟩,
 ⟨some 56,Op.fieldAddr 35 (Operand.tmp 1) 0,some (55,true)⟩,
 ⟨some 57,Op.load 22 (Operand.tmp 56),some (55,true)⟩,
 ⟨some 58,Op.move (Operand.tmp 3),some (55,true)⟩,
 ⟨some 59,Op.indexAddr 22 (Operand.tmp 57) (Operand.tmp 58),some (55,true)⟩,
 ⟨some 60,Op.load 2 (Operand.tmp 59),some (55,true)⟩,
 ⟨some 61,Op.fieldAddr 35 (Operand.tmp 1) 0,some (55,true)⟩,
 ⟨some 62,Op.load 22 (Operand.tmp 61),some (55,true)⟩,
 ⟨some 63,Op.move (Operand.tmp 3),some (55,true)⟩,
 ⟨some 64,Op.binOp BinOp.sub 3 (Operand.tmp 63) (Operand.const (Value.int IntKind.i64 1)) 3,some (55,true)⟩,
 ⟨some 65,Op.indexAddr 22 (Operand.tmp 62) (Operand.tmp 64),some (55,true)⟩,
 ⟨some 66,Op.load 2 (Operand.tmp 65),some (55,true)⟩,
 ⟨some 67,Op.binOp BinOp.leq 2 (Operand.tmp 60) (Operand.tmp 66) 2,some (55,true)⟩,
 ⟨some 68,Op.pick (Operand.tmp 55) (Operand.tmp 67) (Operand.const (Value.bool false)),some (52,false)⟩,
 ⟨some 69,Op.pick (Operand.tmp 52) (Operand.const (Value.bool true)) (Operand.tmp 68),none⟩])
 (.cond (Operand.tmp 69)
 (.seq
 (.region [] false ([]) [
 ⟨some 2,Op.assign (Operand.const (Value.bool false)),none⟩])
 .ret)
 .skip)))
 (.region [] false ([]) [
 ⟨some 43,Op.move (Operand.tmp 3),none⟩,
 ⟨some 44,Op.binOp BinOp.add 3 (Operand.tmp 43) (Operand.const (Value.int IntKind.i64 1)) 3,none⟩,
 ⟨some 3,Op.assign (Operand.tmp 44),none⟩])))
/-- The body of a loop. -/
def k15_l1 : Code1 :=
 (.seq
 (.seq
 (.region [] false ([]) [
 ⟨some 70,Op.move (Operand.tmp 5),none⟩,
 ⟨some 71,Op.fieldAddr 35 (Operand.tmp 1) 1,none⟩,
 ⟨some 72,Op.load 31 (Operand.tmp 71),none⟩,
 ⟨some 73,Op.call {callee:=Callee.builtin Builtin.len,args:=#[Operand.tmp 72],argTypes:=#[31]},none⟩,
 ⟨some 74,Op.binOp BinOp.lss 3 (Operand.tmp 70) (Operand.tmp 73) 3,none⟩])
 (.cond (Operand.tmp 74)
 .skip
 (.exit 2)))
 (.seq
 (.block 3
 (.seq
 (.seq
 (.region [83] true ([]) [
 ⟨some 77,Op.load 35 (Operand.tmp 1),none⟩,
 ⟨some 78,Op.fieldAddr 35 (Operand.tmp 1) 1,none⟩,
 ⟨some 79,Op.load 31 (Operand.tmp 78),none⟩,
 ⟨some 80,Op.move (Operand.tmp 5),none⟩,
 ⟨some 81,Op.indexAddr 31 (Operand.tmp 79) (Operand.tmp 80),none⟩,
 ⟨some 82,Op.load 55 (Operand.tmp 81),none⟩,
 ⟨some 83,Op.call {callee:=Callee.value (Operand.func 43),args:=#[Operand.tmp 77,Operand.tmp 82],argTypes:=#[35,55]},none⟩,
 ⟨some 84,Op.unOp UnOp.not 4 (Operand.tmp 83),none⟩,
 ⟨some 85,Op.move (Operand.tmp 84),none⟩,
 ⟨some 86,Op.move (Operand.tmp 5),some (85,false)⟩,
 ⟨some 87,Op.binOp BinOp.gtr 3 (Operand.tmp 86) (Operand.const (Value.int IntKind.i64 0)) 3,some (85,false)⟩,
 ⟨some 88,Op.move (Operand.tmp 87),some (85,false)⟩,
 ⟨some 89,Op.fieldAddr 35 (Operand.tmp 1) 1,some (88,true)⟩,
 ⟨some 90,Op.load 31 (Operand.tmp 89),some (88,true)⟩,
 ⟨some 91,Op.move (Operand.tmp 5),some (88,true)⟩,
 ⟨some 92,Op.indexAddr 31 (Operand.tmp 90) (Operand.tmp 91),some (88,true)⟩,
 ⟨some 93,Op.fieldAddr 55 (Operand.tmp 92) 0,some (88,true)⟩,
 ⟨some 94,Op.load 2 (Operand.tmp 93),some (88,true)⟩,
 ⟨some 95,Op.fieldAddr 35 (Operand.tmp 1) 1,some (88,true)⟩,
 ⟨some 96,Op.load 31 (Operand.tmp 95),some (88,true)⟩,
 ⟨some 97,Op.move (Operand.tmp 5),some (88,true)⟩,
 ⟨some 98,Op.binOp BinOp.sub 3 (Operand.tmp 97) (Operand.const (Value.int IntKind.i64 1)) 3,some (88,true)⟩,
 ⟨some 99,Op.indexAddr 31 (Operand.tmp 96) (Operand.tmp 98),some (88,true)⟩,
 ⟨some 100,Op.fieldAddr 55 (Operand.tmp 99) 0,some (88,true)⟩,
 ⟨some 101,Op.load 2 (Operand.tmp 100),some (88,true)⟩,
 ⟨some 102,Op.binOp BinOp.leq 2 (Operand.tmp 94) (Operand.tmp 101) 2,some (88,true)⟩,
 ⟨some 103,Op.pick (Operand.tmp 88) (Operand.tmp 102) (Operand.const (Value.bool false)),some (85,false)⟩,
 ⟨some 104,Op.pick (Operand.tmp 85) (Operand.const (Value.bool true)) (Operand.tmp 103),none⟩])
 (.cond (Operand.tmp 104)
 (.seq
 (.region [] false ([]) [
 ⟨some 2,Op.assign (Operand.const (Value.bool false)),none⟩])
 .ret)
 .skip))
 (.region [111] false ([]) [
 ⟨some 105,Op.move (Operand.tmp 4),none⟩,
 ⟨some 106,Op.fieldAddr 35 (Operand.tmp 1) 1,none⟩,
 ⟨some 107,Op.load 31 (Operand.tmp 106),none⟩,
 ⟨some 108,Op.move (Operand.tmp 5),none⟩,
 ⟨some 109,Op.indexAddr 31 (Operand.tmp 107) (Operand.tmp 108),none⟩,
 ⟨some 110,Op.load 55 (Operand.tmp 109),none⟩,
 ⟨some 111,Op.call {callee:=Callee.value (Operand.func 44),args:=#[Operand.tmp 110],argTypes:=#[55]},none⟩,
 ⟨some 112,Op.binOp BinOp.add 3 (Operand.tmp 105) (Operand.tmp 111) 3,none⟩,
 ⟨some 4,Op.assign (Operand.tmp 112),none⟩])))
 (.region [] false ([]) [
 ⟨some 75,Op.move (Operand.tmp 5),none⟩,
 ⟨some 76,Op.binOp BinOp.add 3 (Operand.tmp 75) (Operand.const (Value.int IntKind.i64 1)) 3,none⟩,
 ⟨some 5,Op.assign (Operand.tmp 76),none⟩])))
/-- The body of a loop. -/
def k15_l2 : Code1 :=
 (.seq
 (.seq
 (.region [] false ([]) [
 ⟨some 115,Op.move (Operand.tmp 6),none⟩,
 ⟨some 116,Op.fieldAddr 35 (Operand.tmp 1) 2,none⟩,
 ⟨some 117,Op.load 32 (Operand.tmp 116),none⟩,
 ⟨some 118,Op.call {callee:=Callee.builtin Builtin.len,args:=#[Operand.tmp 117],argTypes:=#[32]},none⟩,
 ⟨some 119,Op.binOp BinOp.lss 3 (Operand.tmp 115) (Operand.tmp 118) 3,none⟩])
 (.cond (Operand.tmp 119)
 .skip
 (.exit 4)))
 (.seq
 (.block 5
 (.seq
 (.region [128] true ([]) [
 ⟨some 122,Op.load 35 (Operand.tmp 1),none⟩,
 ⟨some 123,Op.fieldAddr 35 (Operand.tmp 1) 2,none⟩,
 ⟨some 124,Op.load 32 (Operand.tmp 123),none⟩,
 ⟨some 125,Op.move (Operand.tmp 6),none⟩,
 ⟨some 126,Op.indexAddr 32 (Operand.tmp 124) (Operand.tmp 125),none⟩,
 ⟨some 127,Op.load 58 (Operand.tmp 126),none⟩,
 ⟨some 128,Op.call {callee:=Callee.value (Operand.func 45),args:=#[Operand.tmp 122,Operand.tmp 127],argTypes:=#[35,58]},none⟩,
 ⟨some 129,Op.unOp UnOp.not 4 (Operand.tmp 128),none⟩,
 ⟨some 130,Op.move (Operand.tmp 129),none⟩,
 ⟨some 131,Op.move (Operand.tmp 6),some (130,false)⟩,
 ⟨some 132,Op.binOp BinOp.gtr 3 (Operand.tmp 131) (Operand.const (Value.int IntKind.i64 0)) 3,some (130,false)⟩,
 ⟨some 133,Op.move (Operand.tmp 132),some (130,false)⟩,
 ⟨some 134,Op.fieldAddr 35 (Operand.tmp 1) 2,some (133,true)⟩,
 ⟨some 135,Op.load 32 (Operand.tmp 134),some (133,true)⟩,
 ⟨some 136,Op.move (Operand.tmp 6),some (133,true)⟩,
 ⟨some 137,Op.indexAddr 32 (Operand.tmp 135) (Operand.tmp 136),some (133,true)⟩,
 ⟨some 138,Op.fieldAddr 58 (Operand.tmp 137) 0,some (133,true)⟩,
 ⟨some 139,Op.load 2 (Operand.tmp 138),some (133,true)⟩,
 ⟨some 140,Op.fieldAddr 35 (Operand.tmp 1) 2,some (133,true)⟩,
 ⟨some 141,Op.load 32 (Operand.tmp 140),some (133,true)⟩,
 ⟨some 142,Op.move (Operand.tmp 6),some (133,true)⟩,
 ⟨some 143,Op.binOp BinOp.sub 3 (Operand.tmp 142) (Operand.const (Value.int IntKind.i64 1)) 3,some (133,true)⟩,
 ⟨some 144,Op.indexAddr 32 (Operand.tmp 141) (Operand.tmp 143),some (133,true)⟩,
 ⟨some 145,Op.fieldAddr 58 (Operand.tmp 144) 0,some (133,true)⟩,
 ⟨some 146,Op.load 2 (Operand.tmp 145),some (133,true)⟩,
 ⟨some 147,Op.binOp BinOp.leq 2 (Operand.tmp 139) (Operand.tmp 146) 2,some (133,true)⟩,
 ⟨some 148,Op.pick (Operand.tmp 133) (Operand.tmp 147) (Operand.const (Value.bool false)),some (130,false)⟩,
 ⟨some 149,Op.pick (Operand.tmp 130) (Operand.const (Value.bool true)) (Operand.tmp 148),none⟩])
 (.cond (Operand.tmp 149)
 (.seq
 (.region [] false ([]) [
 ⟨some 2,Op.assign (Operand.const (Value.bool false)),none⟩])
 .ret)
 .skip)))
 (.region [] false ([]) [
 ⟨some 120,Op.move (Operand.tmp 6),none⟩,
 ⟨some 121,Op.binOp BinOp.add 3 (Operand.tmp 120) (Operand.const (Value.int IntKind.i64 1)) 3,none⟩,
 ⟨some 6,Op.assign (Operand.tmp 121),none⟩])))
/-- The body of a loop. -/
def k15_l3 : Code1 :=
 (.seq
 (.seq
 (.region [] false ([]) [
 ⟨some 150,Op.move (Operand.tmp 7),none⟩,
 ⟨some 151,Op.fieldAddr 35 (Operand.tmp 1) 3,none⟩,
 ⟨some 152,Op.load 33 (Operand.tmp 151),none⟩,
 ⟨some 153,Op.call {callee:=Callee.builtin Builtin.len,args:=#[Operand.tmp 152],argTypes:=#[33]},none⟩,
 ⟨some 154,Op.binOp BinOp.lss 3 (Operand.tmp 150) (Operand.tmp 153) 3,none⟩])
 (.cond (Operand.tmp 154)
 .skip
 (.exit 6)))
 (.seq
 (.block 7
 (.seq
 (.region [8] false ([]) [
 ⟨some 157,Op.fieldAddr 35 (Operand.tmp 1) 3,none⟩,
 ⟨some 158,Op.load 33 (Operand.tmp 157),none⟩,
 ⟨some 159,Op.move (Operand.tmp 7),none⟩,
 ⟨some 160,Op.indexAddr 33 (Operand.tmp 158) (Operand.tmp 159),none⟩,
 ⟨some 161,Op.load 60 (Operand.tmp 160),none⟩,
 ⟨some 8,Op.alloc 60,none⟩,
 ⟨none,Op.store 60 (Operand.tmp 8) (Operand.tmp 161),none⟩])
 (.seq
 (.seq
 (.region [164,170,177] false ([]) [
 ⟨some 162,Op.fieldAddr 60 (Operand.tmp 8) 2,none⟩,
 ⟨some 163,Op.load 2 (Operand.tmp 162),none⟩,
 ⟨some 164,Op.call {callee:=Callee.value (Operand.func 42),args:=#[Operand.tmp 163],argTypes:=#[2]},none⟩,
 ⟨some 165,Op.unOp UnOp.not 4 (Operand.tmp 164),none⟩,
 ⟨some 166,Op.move (Operand.tmp 165),none⟩,
 ⟨some 167,Op.load 35 (Operand.tmp 1),some (166,false)⟩,
 ⟨some 168,Op.fieldAddr 60 (Operand.tmp 8) 0,some (166,false)⟩,
 ⟨some 169,Op.load 2 (Operand.tmp 168),some (166,false)⟩,
 ⟨some 170,Op.call {callee:=Callee.value (Operand.func 46),args:=#[Operand.tmp 167,Operand.tmp 169],argTypes:=#[35,2]},some (166,false)⟩,
 ⟨some 171,Op.binOp BinOp.lss 3 (Operand.tmp 170) (Operand.const (Value.int IntKind.i64 0)) 3,some (166,false)⟩,
 ⟨some 172,Op.pick (Operand.tmp 166) (Operand.const (Value.bool true)) (Operand.tmp 171),none⟩,
 ⟨some 173,Op.move (Operand.tmp 172),none⟩,
 ⟨some 174,Op.load 35 (Operand.tmp 1),some (173,false)⟩,
 ⟨some 175,Op.fieldAddr 60 (Operand.tmp 8) 1,some (173,false)⟩,
 ⟨some 176,Op.load 2 (Operand.tmp 175),some (173,false)⟩,
 ⟨some 177,Op.call {callee:=Callee.value (Operand.func 46),args:=#[Operand.tmp 174,Operand.tmp 176],argTypes:=#[35,2]},some (173,false)⟩,
 ⟨some 178,Op.binOp BinOp.lss 3 (Operand.tmp 177) (Operand.const (Value.int IntKind.i64 0)) 3,some (173,false)⟩,
 ⟨some 179,Op.pick (Operand.tmp 173) (Operand.const (Value.bool true)) (Operand.tmp 178),none⟩])
 (.cond (Operand.tmp 179)
 (.seq
 (.region [] false ([]) [
 ⟨some 2,Op.assign (Operand.const (Value.bool false)),none⟩])
 .ret)
 .skip))
 (.seq
 (.region [] false ([]) [
 ⟨some 180,Op.move (Operand.tmp 7),none⟩,
 ⟨some 181,Op.binOp BinOp.gtr 3 (Operand.tmp 180) (Operand.const (Value.int IntKind.i64 0)) 3,none⟩])
 (.cond (Operand.tmp 181)
 (.seq
 (.region [9] false ([]) [
 ⟨some 182,Op.fieldAddr 35 (Operand.tmp 1) 3,none⟩,
 ⟨some 183,Op.load 33 (Operand.tmp 182),none⟩,
 ⟨some 184,Op.move (Operand.tmp 7),none⟩,
 ⟨some 185,Op.binOp BinOp.sub 3 (Operand.tmp 184) (Operand.const (Value.int IntKind.i64 1)) 3,none⟩,
 ⟨some 186,Op.indexAddr 33 (Operand.tmp 183) (Operand.tmp 185),none⟩,
 ⟨some 187,Op.load 60 (Operand.tmp 186),none⟩,
 ⟨some 9,Op.alloc 60,none⟩,
 ⟨none,Op.store 60 (Operand.tmp 9) (Operand.tmp 187),none⟩])
 (.seq
 (.region [] false ([]) [
 ⟨some 188,Op.fieldAddr 60 (Operand.tmp 8) 0,none⟩,
 ⟨some 189,Op.load 2 (Operand.tmp 188),none⟩,
 ⟨some 190,Op.fieldAddr 60 (Operand.tmp 9) 0,none⟩,
 ⟨some 191,Op.load 2 (Operand.tmp 190),none⟩,
 ⟨some 192,Op.binOp BinOp.lss 2 (Operand.tmp 189) (Operand.tmp 191) 2,none⟩,
 ⟨some 193,Op.move (Operand.tmp 192),none⟩,
 ⟨some 194,Op.fieldAddr 60 (Operand.tmp 8) 0,some (193,false)⟩,
 ⟨some 195,Op.load 2 (Operand.tmp 194),some (193,false)⟩,
 ⟨some 196,Op.fieldAddr 60 (Operand.tmp 9) 0,some (193,false)⟩,
 ⟨some 197,Op.load 2 (Operand.tmp 196),some (193,false)⟩,
 ⟨some 198,Op.binOp BinOp.eql 2 (Operand.tmp 195) (Operand.tmp 197) 2,some (193,false)⟩,
 ⟨some 199,Op.move (Operand.tmp 198),some (193,false)⟩,
 ⟨some 200,Op.fieldAddr 60 (Operand.tmp 8) 1,some (199,true)⟩,
 ⟨some 201,Op.load 2 (Operand.tmp 200),some (199,true)⟩,
 ⟨some 202,Op.fieldAddr 60 (Operand.tmp 9) 1,some (199,true)⟩,
 ⟨some 203,Op.load 2 (Operand.tmp 202),some (199,true)⟩,
 ⟨some 204,Op.binOp BinOp.leq 2 (Operand.tmp 201) (Operand.tmp 203) 2,some (199,true)⟩,
 ⟨some 205,Op.pick (Operand.tmp 199) (Operand.tmp 204) (Operand.const (Value.bool false)),some (193,false)⟩,
 ⟨some 206,Op.pick (Operand.tmp 193) (Operand.const (Value.bool true)) (Operand.tmp 205),none⟩])
 (.cond (Operand.tmp 206)
 (.seq
 (.region [] false ([]) [
 ⟨some 2,Op.assign (Operand.const (Value.bool false)),none⟩])
 .ret)
 .skip)))
 .skip)))))
 (.region [] false ([]) [
 ⟨some 155,Op.move (Operand.tmp 7),none⟩,
 ⟨some 156,Op.binOp BinOp.add 3 (Operand.tmp 155) (Operand.const (Value.int IntKind.i64 1)) 3,none⟩,
 ⟨some 7,Op.assign (Operand.tmp 156),none⟩])))
/-- The code of spec.ValidNet, its loops' bodies named. -/
def k15 : Code1 :=
 (.seq
 (.region [1] false ([]) [
 ⟨some 1,Op.box 35 (Operand.tmp 0),none⟩,
 ⟨some 2,Op.assign (Operand.const (Value.bool false)),none⟩])
 (.seq
 (.seq
 (.region [12] false ([]) [
 ⟨some 10,Op.fieldAddr 35 (Operand.tmp 1) 4,none⟩,
 ⟨some 11,Op.load 2 (Operand.tmp 10),none⟩,
 ⟨some 12,Op.call {callee:=Callee.value (Operand.func 42),args:=#[Operand.tmp 11],argTypes:=#[2]},none⟩,
 ⟨some 13,Op.unOp UnOp.not 4 (Operand.tmp 12),none⟩,
 ⟨some 14,Op.move (Operand.tmp 13),none⟩,
 ⟨some 15,Op.fieldAddr 35 (Operand.tmp 1) 0,some (14,false)⟩,
 ⟨some 16,Op.load 22 (Operand.tmp 15),some (14,false)⟩,
 ⟨some 17,Op.call {callee:=Callee.builtin Builtin.len,args:=#[Operand.tmp 16],argTypes:=#[22]},some (14,false)⟩,
 ⟨some 18,Op.binOp BinOp.gtr 3 (Operand.tmp 17) (Operand.const (Value.int IntKind.i64 2000)) 3,some (14,false)⟩,
 ⟨some 19,Op.pick (Operand.tmp 14) (Operand.const (Value.bool true)) (Operand.tmp 18),none⟩,
 ⟨some 20,Op.move (Operand.tmp 19),none⟩,
 ⟨some 21,Op.fieldAddr 35 (Operand.tmp 1) 1,some (20,false)⟩,
 ⟨some 22,Op.load 31 (Operand.tmp 21),some (20,false)⟩,
 ⟨some 23,Op.call {callee:=Callee.builtin Builtin.len,args:=#[Operand.tmp 22],argTypes:=#[31]},some (20,false)⟩,
 ⟨some 24,Op.binOp BinOp.gtr 3 (Operand.tmp 23) (Operand.const (Value.int IntKind.i64 2000)) 3,some (20,false)⟩,
 ⟨some 25,Op.pick (Operand.tmp 20) (Operand.const (Value.bool true)) (Operand.tmp 24),none⟩,
 ⟨some 26,Op.move (Operand.tmp 25),none⟩,
 ⟨some 27,Op.fieldAddr 35 (Operand.tmp 1) 2,some (26,false)⟩,
 ⟨some 28,Op.load 32 (Operand.tmp 27),some (26,false)⟩,
 ⟨some 29,Op.call {callee:=Callee.builtin Builtin.len,args:=#[Operand.tmp 28],argTypes:=#[32]},some (26,false)⟩,
 ⟨some 30,Op.binOp BinOp.gtr 3 (Operand.tmp 29) (Operand.const (Value.int IntKind.i64 1000)) 3,some (26,false)⟩,
 ⟨some 31,Op.pick (Operand.tmp 26) (Operand.const (Value.bool true)) (Operand.tmp 30),none⟩,
 ⟨some 32,Op.move (Operand.tmp 31),none⟩,
 ⟨some 33,Op.fieldAddr 35 (Operand.tmp 1) 3,some (32,false)⟩,
 ⟨some 34,Op.load 33 (Operand.tmp 33),some (32,false)⟩,
 ⟨some 35,Op.call {callee:=Callee.builtin Builtin.len,args:=#[Operand.tmp 34],argTypes:=#[33]},some (32,false)⟩,
 ⟨some 36,Op.binOp BinOp.gtr 3 (Operand.tmp 35) (Operand.const (Value.int IntKind.i64 2000)) 3,some (32,false)⟩,
 ⟨some 37,Op.pick (Operand.tmp 32) (Operand.const (Value.bool true)) (Operand.tmp 36),none⟩])
 (.cond (Operand.tmp 37)
 (.seq
 (.region [] false ([]) [
 ⟨some 2,Op.assign (Operand.const (Value.bool false)),none⟩])
 .ret)
 .skip))
 (.seq
 (.seq
 (.region [] false ([]) [
 ⟨some 3,Op.assign (Operand.const (Value.int IntKind.i64 0)),none⟩])
 (.block 0
 (.loop k15_l0)))
 (.seq
 (.region [] false ([]) [
 ⟨some 4,Op.assign (Operand.const (Value.int IntKind.i64 0)),none⟩])
 (.seq
 (.seq
 (.region [] false ([]) [
 ⟨some 5,Op.assign (Operand.const (Value.int IntKind.i64 0)),none⟩])
 (.block 2
 (.loop k15_l1)))
 (.seq
 (.seq
 (.region [] false ([]) [
 ⟨some 113,Op.move (Operand.tmp 4),none⟩,
 ⟨some 114,Op.binOp BinOp.gtr 3 (Operand.tmp 113) (Operand.const (Value.int IntKind.i64 4000)) 3,none⟩])
 (.cond (Operand.tmp 114)
 (.seq
 (.region [] false ([]) [
 ⟨some 2,Op.assign (Operand.const (Value.bool false)),none⟩])
 .ret)
 .skip))
 (.seq
 (.seq
 (.region [] false ([]) [
 ⟨some 6,Op.assign (Operand.const (Value.int IntKind.i64 0)),none⟩])
 (.block 4
 (.loop k15_l2)))
 (.seq
 (.seq
 (.region [] false ([]) [
 ⟨some 7,Op.assign (Operand.const (Value.int IntKind.i64 0)),none⟩])
 (.block 6
 (.loop k15_l3)))
 (.seq
 (.region [] false ([]) [
 ⟨some 2,Op.assign (Operand.const (Value.bool true)),none⟩])
 .ret)))))))))
set_option maxHeartbeats 4000000 in
theorem vnS_l0 (n : Net) (h : LN n) {K : St → Prop} (hE : ∀ s : St, (s.tm 1 = .ptr (1, 0) 0 0 ∧ s.ob (1, 0) = objN n ∧ ∀ i : Nat, i < n.nodes.length → NdI n i) → K s) (m : Nat) (s : St) (hs : (fun (m : Nat) (s : St) => ∃ k : Nat, s.tm 1 = .ptr (1, 0) 0 0 ∧ s.ob (1, 0) = objN n ∧ s.tm 3 = .t (.v (.int .i64 k)) ∧ k ≤ n.nodes.length ∧ m = n.nodes.length - k ∧ ∀ i : Nat, i < k → NdI n i) m s) (K' : St → Prop) (hN : ∀ (m' : Nat) (s' : St), m' < m → (fun (m : Nat) (s : St) => ∃ k : Nat, s.tm 1 = .ptr (1, 0) 0 0 ∧ s.ob (1, 0) = objN n ∧ s.tm 3 = .t (.v (.int .i64 k)) ∧ k ≤ n.nodes.length ∧ m = n.nodes.length - k ∧ ∀ i : Nat, i < k → NdI n i) m' s' → K' s') : wp2 Tryd.prog k15_l0 (thenQ K' (inBlk 0 (thenQ K (Fin (Back Tryd.prog [ResultVar.tmp 2] [.agg (encN n)] (.t (.v (.bool (decide (VNet n))))) []))))) s := by
  obtain ⟨h1, h2, h3, h4, h5, h6, h7⟩ := h
  obtain ⟨k, s1, o1, sk, hk, rfl, hq⟩ := hs
  simp only [objN] at o1
  unfold k15_l0
  repeat' (first
   | refine wp2_seq fun K hK => ?_
   | refine M_cons fun K hK => ?_
   | (refine hK _ ?_; clear hK K)
   | (refine hX _ ?_; clear hX hY X Y)
   | (refine hY _ ?_; clear hX hY X Y)
   | refine wp2_block ?_
   | refine wp2_region ?_
   | refine wp2_cond fun X Y hX hY => ?_
   | (refine condK_of (fun c => ?_) (fun c => ?_) <;> (try simp [-List.length_eq_zero_iff] at c))
   | (refine guard1_or (fun c => ?_) (fun c => ?_) <;> (have cc := c) <;> (try simp [-List.length_eq_zero_iff] at cc) <;> (try simp (disch := omega) [s1, o1, sk, c]))
   | (refine callT_fl (l1In_c _) (by simp [St.args, St.arg, s1, o1, sk] <;> first | rfl | ((repeat' first | rfl | apply And.intro); first | done | fail)) ?_)
   | simp (maxSteps := 4000000) (disch := omega) [s1, o1, sk])
  all_goals first
    | (refine hN (n.nodes.length - (k + 1)) _ (by omega) ⟨k + 1, ?_⟩
       simp [s1, o1, objN]
       refine ⟨by omega, below_succ hq ?_⟩
       exact ⟨by assumption, by omega⟩)
    | (refine hE _ ?_
       simp [s1, o1, objN]
       exact fun i hi => hq i (by omega))
    | omega
    | (have hv : ¬ VNet n := fun h => by
         have e := h.ni k (by assumption)
         unfold NdI at e
         obtain ⟨e1, e2⟩ := e
         clear h
         first | omega | contradiction
       simp [Back, hv]; done)
    | skip
set_option maxHeartbeats 4000000 in
theorem vnS_l1 (n : Net) (h : LN n) {K : St → Prop} (hE : ∀ s : St, (s.tm 1 = .ptr (1, 0) 0 0 ∧ s.ob (1, 0) = objN n ∧ s.tm 4 = .t (.v (.int .i64 (sumE n.ways n.ways.length))) ∧ ∀ i : Nat, i < n.ways.length → WyI n i) → K s) (m : Nat) (s : St) (hs : (fun (m : Nat) (s : St) => ∃ k : Nat, s.tm 1 = .ptr (1, 0) 0 0 ∧ s.ob (1, 0) = objN n ∧ s.tm 4 = .t (.v (.int .i64 (sumE n.ways k))) ∧ s.tm 5 = .t (.v (.int .i64 k)) ∧ k ≤ n.ways.length ∧ m = n.ways.length - k ∧ ∀ i : Nat, i < k → WyI n i) m s) (K' : St → Prop) (hN : ∀ (m' : Nat) (s' : St), m' < m → (fun (m : Nat) (s : St) => ∃ k : Nat, s.tm 1 = .ptr (1, 0) 0 0 ∧ s.ob (1, 0) = objN n ∧ s.tm 4 = .t (.v (.int .i64 (sumE n.ways k))) ∧ s.tm 5 = .t (.v (.int .i64 k)) ∧ k ≤ n.ways.length ∧ m = n.ways.length - k ∧ ∀ i : Nat, i < k → WyI n i) m' s' → K' s') : wp2 Tryd.prog k15_l1 (thenQ K' (inBlk 2 (thenQ K (Fin (Back Tryd.prog [ResultVar.tmp 2] [.agg (encN n)] (.t (.v (.bool (decide (VNet n))))) []))))) s := by
  obtain ⟨h1, h2, h3, h4, h5, h6, h7⟩ := h
  obtain ⟨k, s1, o1, s4, sk, hk, rfl, hq⟩ := hs
  simp only [objN] at o1
  have b1 := sumE_le h6 k hk
  have b2 : k < n.ways.length → 0 ≤ edgesW (nth n.ways k) ∧ edgesW (nth n.ways k) ≤ 2097152 := fun h => edgesW_le (h6 k h)
  unfold k15_l1
  repeat' (first
   | refine wp2_seq fun K hK => ?_
   | refine M_cons fun K hK => ?_
   | (refine hK _ ?_; clear hK K)
   | (refine hX _ ?_; clear hX hY X Y)
   | (refine hY _ ?_; clear hX hY X Y)
   | refine wp2_block ?_
   | refine wp2_region ?_
   | refine wp2_cond fun X Y hX hY => ?_
   | (refine condK_of (fun c => ?_) (fun c => ?_) <;> (try simp [-List.length_eq_zero_iff] at c))
   | (refine guard1_or (fun c => ?_) (fun c => ?_) <;> (have cc := c) <;> (try simp [-List.length_eq_zero_iff] at cc) <;> (try simp (disch := omega) [s1, o1, s4, sk, encW, encN, c]))
   | (refine callT_fl (wayGood_c n _ h1 (h6 _ (by omega)) (h5 _ (by omega))) (by simp [St.args, St.arg, s1, o1, s4, sk, encW, encN] <;> first | rfl | ((repeat' first | rfl | apply And.intro); first | done | fail)) ?_)
   | (refine callT_fl (wayEdges_c _ (h6 _ (by omega))) (by simp [St.args, St.arg, s1, o1, s4, sk, encW, encN] <;> first | rfl | ((repeat' first | rfl | apply And.intro); first | done | fail)) ?_)
   | simp (maxSteps := 4000000) (disch := omega) [s1, o1, s4, sk, encW, encN])
  all_goals first
    | (refine hN (n.ways.length - (k + 1)) _ (by omega) ⟨k + 1, ?_⟩
       simp [s1, o1, objN, sumE]
       refine ⟨by omega, below_succ hq ?_⟩
       exact ⟨by assumption, by omega⟩)
    | (have hkl : k = n.ways.length := by omega
       subst hkl
       refine hE _ ?_
       simp [s1, o1, s4, objN]
       exact hq)
    | omega
    | (have hv : ¬ VNet n := fun h => by
         have e := h.wi k (by assumption)
         unfold WyI at e
         obtain ⟨e1, e2⟩ := e
         clear h
         first | omega | contradiction
       simp [Back, hv]; done)
    | skip
set_option maxHeartbeats 4000000 in
theorem vnS_l2 (n : Net) (h : LN n) {K : St → Prop} (hE : ∀ s : St, (s.tm 1 = .ptr (1, 0) 0 0 ∧ s.ob (1, 0) = objN n ∧ ∀ i : Nat, i < n.rels.length → RlI n i) → K s) (m : Nat) (s : St) (hs : (fun (m : Nat) (s : St) => ∃ k : Nat, s.tm 1 = .ptr (1, 0) 0 0 ∧ s.ob (1, 0) = objN n ∧ s.tm 6 = .t (.v (.int .i64 k)) ∧ k ≤ n.rels.length ∧ m = n.rels.length - k ∧ ∀ i : Nat, i < k → RlI n i) m s) (K' : St → Prop) (hN : ∀ (m' : Nat) (s' : St), m' < m → (fun (m : Nat) (s : St) => ∃ k : Nat, s.tm 1 = .ptr (1, 0) 0 0 ∧ s.ob (1, 0) = objN n ∧ s.tm 6 = .t (.v (.int .i64 k)) ∧ k ≤ n.rels.length ∧ m = n.rels.length - k ∧ ∀ i : Nat, i < k → RlI n i) m' s' → K' s') : wp2 Tryd.prog k15_l2 (thenQ K' (inBlk 4 (thenQ K (Fin (Back Tryd.prog [ResultVar.tmp 2] [.agg (encN n)] (.t (.v (.bool (decide (VNet n))))) []))))) s := by
  obtain ⟨h1, h2, h3, h4, h5, h6, h7⟩ := h
  obtain ⟨k, s1, o1, sk, hk, rfl, hq⟩ := hs
  simp only [objN] at o1
  unfold k15_l2
  repeat' (first
   | refine wp2_seq fun K hK => ?_
   | refine M_cons fun K hK => ?_
   | (refine hK _ ?_; clear hK K)
   | (refine hX _ ?_; clear hX hY X Y)
   | (refine hY _ ?_; clear hX hY X Y)
   | refine wp2_block ?_
   | refine wp2_region ?_
   | refine wp2_cond fun X Y hX hY => ?_
   | (refine condK_of (fun c => ?_) (fun c => ?_) <;> (try simp [-List.length_eq_zero_iff] at c))
   | (refine guard1_or (fun c => ?_) (fun c => ?_) <;> (have cc := c) <;> (try simp [-List.length_eq_zero_iff] at cc) <;> (try simp (disch := omega) [s1, o1, sk, encR, encN, c]))
   | (refine callT_fl (relGood_c n _ h1 h2 (h7 _ (by omega))) (by simp [St.args, St.arg, s1, o1, sk, encR, encN] <;> first | rfl | ((repeat' first | rfl | apply And.intro); first | done | fail)) ?_)
   | simp (maxSteps := 4000000) (disch := omega) [s1, o1, sk, encR, encN])
  all_goals first
    | (refine hN (n.rels.length - (k + 1)) _ (by omega) ⟨k + 1, ?_⟩
       simp [s1, o1, objN]
       refine ⟨by omega, below_succ hq ?_⟩
       exact ⟨by assumption, by omega⟩)
    | (refine hE _ ?_
       simp [s1, o1, objN]
       exact fun i hi => hq i (by omega))
    | omega
    | (have hv : ¬ VNet n := fun h => by
         have e := h.ri k (by assumption)
         unfold RlI at e
         obtain ⟨e1, e2⟩ := e
         clear h
         first | omega | contradiction
       simp [Back, hv]; done)
    | skip
set_option maxHeartbeats 4000000 in
theorem vnS_l3 (n : Net) (h : LN n) {K : St → Prop} (hE : ∀ s : St, (∀ i : Nat, i < n.tcs.length → TcI n i) → K s) (m : Nat) (s : St) (hs : (fun (m : Nat) (s : St) => ∃ k : Nat, s.tm 1 = .ptr (1, 0) 0 0 ∧ s.ob (1, 0) = objN n ∧ s.tm 7 = .t (.v (.int .i64 k)) ∧ k ≤ n.tcs.length ∧ m = n.tcs.length - k ∧ ∀ i : Nat, i < k → TcI n i) m s) (K' : St → Prop) (hN : ∀ (m' : Nat) (s' : St), m' < m → (fun (m : Nat) (s : St) => ∃ k : Nat, s.tm 1 = .ptr (1, 0) 0 0 ∧ s.ob (1, 0) = objN n ∧ s.tm 7 = .t (.v (.int .i64 k)) ∧ k ≤ n.tcs.length ∧ m = n.tcs.length - k ∧ ∀ i : Nat, i < k → TcI n i) m' s' → K' s') : wp2 Tryd.prog k15_l3 (thenQ K' (inBlk 6 (thenQ K (Fin (Back Tryd.prog [ResultVar.tmp 2] [.agg (encN n)] (.t (.v (.bool (decide (VNet n))))) []))))) s := by
  obtain ⟨h1, h2, h3, h4, h5, h6, h7⟩ := h
  obtain ⟨k, s1, o1, sk, hk, rfl, hq⟩ := hs
  simp only [objN] at o1
  have ea := wayAt_iff (l := n.ways) (x := (nth n.tcs k).fr)
  have eb := wayAt_iff (l := n.ways) (x := (nth n.tcs k).to)
  have key : TcI n k ↔ inR (nth n.tcs k).cost ∧ ¬ wayAt n.ways (nth n.tcs k).fr < 0 ∧ ¬ wayAt n.ways (nth n.tcs k).to < 0 ∧ (0 < k → (nth n.tcs ((k : Int) - 1)).fr < (nth n.tcs k).fr ∨ ((nth n.tcs ((k : Int) - 1)).fr = (nth n.tcs k).fr ∧ (nth n.tcs ((k : Int) - 1)).to < (nth n.tcs k).to)) := by
    rw [ea, eb, Decidable.not_not, Decidable.not_not]
    unfold TcI TCOK
    exact ⟨fun ⟨⟨a, b, c⟩, d⟩ => ⟨a, b, c, d⟩, fun ⟨a, b, c, d⟩ => ⟨⟨a, b, c⟩, d⟩⟩
  clear ea eb
  unfold k15_l3
  repeat' (first
   | refine wp2_seq fun K hK => ?_
   | refine M_cons fun K hK => ?_
   | (refine hK _ ?_; clear hK K)
   | (refine hX _ ?_; clear hX hY X Y)
   | (refine hY _ ?_; clear hX hY X Y)
   | refine wp2_block ?_
   | refine wp2_region ?_
   | refine wp2_cond fun X Y hX hY => ?_
   | (refine condK_of (fun c => ?_) (fun c => ?_) <;> (try simp [-List.length_eq_zero_iff] at c))
   | (refine guard1_or (fun c => ?_) (fun c => ?_) <;> (have cc := c) <;> (try simp [-List.length_eq_zero_iff] at cc) <;> (try simp (disch := omega) [s1, o1, sk, encC, encN, c]))
   | (refine callT_fl (l1In_c _) (by simp [St.args, St.arg, s1, o1, sk, encC, encN] <;> first | rfl | ((repeat' first | rfl | apply And.intro); first | done | fail)) ?_)
   | (refine callT_fl (wayAt_c n _ h2) (by simp [St.args, St.arg, s1, o1, sk, encC, encN] <;> first | rfl | ((repeat' first | rfl | apply And.intro); first | done | fail)) ?_)
   | simp (maxSteps := 4000000) (disch := omega) [s1, o1, sk, encC, encN])
  all_goals first
    | (refine hN (n.tcs.length - (k + 1)) _ (by omega) ⟨k + 1, ?_⟩
       simp [s1, o1, objN]
       refine ⟨by omega, below_succ hq ?_⟩
       rw [key]
       exact ⟨by assumption, by omega, by omega, by omega⟩)
    | exact hE _ (fun i hi => hq i (by omega))
    | omega
    | (have hv : ¬ VNet n := fun h => by
         have e := h.ti k (by assumption)
         rw [key] at e
         obtain ⟨e1, e2, e3, e4⟩ := e
         clear h
         first | omega | contradiction
       simp [Back, hv]; done)
    | skip
set_option maxHeartbeats 4000000 in
theorem vnS (n : Net) (h : LN n) : CallsF Tryd.prog 15 [.agg (encN n)] (.t (.v (.bool (decide (VNet n))))) [] := by
  have hL := h
  refine callsF_of_wp2 (fn := Tryd.f15) (k := k15) (fun _ => []) mixed (by kernel_rfl) rfl (by kernel_rfl) (by kernel_rfl) (by kernel_rfl) rfl (by simp [Tryd.f15]) (by simp [Arg.like]) ?_
  generalize hst : St.enter [.agg (encN n)] = st0
  have t0 : st0.tm 0 = .agg ((encN n) |>.map .t) := by rw [← hst]; rfl
  clear hst
  unfold k15
  simp [encN] at t0
  obtain ⟨h1, h2, h3, h4, h5, h6, h7⟩ := h
  repeat' (first
   | refine wp2_seq fun K hK => ?_
   | refine M_cons fun K hK => ?_
   | (refine hK _ ?_; clear hK K)
   | (refine hX _ ?_; clear hX hY X Y)
   | (refine hY _ ?_; clear hX hY X Y)
   | refine wp2_block ?_
   | refine wp2_region ?_
   | refine wp2_cond fun X Y hX hY => ?_
   | (refine condK_of (fun c => ?_) (fun c => ?_) <;> (try simp [-List.length_eq_zero_iff] at c))
   | (refine guard1_or (fun c => ?_) (fun c => ?_) <;> (have cc := c) <;> (try simp [-List.length_eq_zero_iff] at cc) <;> (try simp (disch := omega) [t0, c]))
   | (refine callT_fl (l1In_c _) (by simp [St.args, St.arg, t0] <;> first | rfl | ((repeat' first | rfl | apply And.intro); first | done | fail)) ?_)
   | simp (maxSteps := 4000000) (disch := omega) [t0])
  all_goals try (have hv : ¬ VNet n := (fun h => by
      have e1 := h.u; have e2 := h.c1; have e3 := h.c2; have e4 := h.c3; have e5 := h.c4
      first | omega | contradiction); simp [Back, hv]; done)
  have g0 : inR n.uturn := by assumption
  have g1 : n.nodes.length ≤ 2000 := by omega
  have g2 : n.ways.length ≤ 2000 := by omega
  have g3 : n.rels.length ≤ 1000 := by omega
  have g4 : n.tcs.length ≤ 2000 := by omega
  refine wp2_loop _ n.nodes.length ?_ (vnS_l0 n hL ?_)
  · refine ⟨0, ?_⟩
    simp [t0, objN]
  · clear t0
    rintro s ⟨s1, o1, g5⟩
    simp only [objN] at o1
    repeat' (first
     | refine wp2_seq fun K hK => ?_
     | refine M_cons fun K hK => ?_
     | (refine hK _ ?_; clear hK K)
     | refine wp2_block ?_
     | refine wp2_region ?_
     | simp (maxSteps := 4000000) (disch := omega) [s1, o1])
    refine wp2_loop _ n.ways.length ?_ (vnS_l1 n hL ?_)
    · refine ⟨0, ?_⟩
      simp [s1, o1, objN, sumE]
    · clear s1 o1
      rintro s ⟨s1, o1, s4, g6⟩
      simp only [objN] at o1
      repeat' (first
       | refine wp2_seq fun K hK => ?_
       | refine M_cons fun K hK => ?_
       | (refine hK _ ?_; clear hK K)
       | (refine hX _ ?_; clear hX hY X Y)
       | (refine hY _ ?_; clear hX hY X Y)
       | refine wp2_block ?_
       | refine wp2_region ?_
       | refine wp2_cond fun X Y hX hY => ?_
       | (refine condK_of (fun c => ?_) (fun c => ?_) <;> (try simp [-List.length_eq_zero_iff] at c))
       | simp (maxSteps := 4000000) (disch := omega) [s1, o1, s4])
      all_goals try (have hv : ¬ VNet n := (fun h => by have e1 := h.es; omega); simp [Back, hv]; done)
      have g7 : sumE n.ways n.ways.length ≤ 4000 := by omega
      refine wp2_loop _ n.rels.length ?_ (vnS_l2 n hL ?_)
      · refine ⟨0, ?_⟩
        simp [s1, o1, objN]
      · clear s1 o1 s4
        rintro s ⟨s1, o1, g8⟩
        simp only [objN] at o1
        repeat' (first
         | refine wp2_seq fun K hK => ?_
         | refine M_cons fun K hK => ?_
         | (refine hK _ ?_; clear hK K)
         | refine wp2_block ?_
         | refine wp2_region ?_
         | simp (maxSteps := 4000000) (disch := omega) [s1, o1])
        refine wp2_loop _ n.tcs.length ?_ (vnS_l3 n hL ?_)
        · refine ⟨0, ?_⟩
          simp [s1, o1, objN]
        · intro s g9
          have hv : VNet n := ⟨g0, g1, g2, g3, g4, g5, g6, g7, g8, g9⟩
          repeat' (first
           | refine wp2_seq fun K hK => ?_
           | refine M_cons fun K hK => ?_
           | (refine hK _ ?_; clear hK K)
           | refine wp2_region ?_
           | simp (maxSteps := 4000000) (disch := omega) [hv])
          all_goals try (simp [hv, Back]; done)
end Cal

/- Plain law: the maps of a network's numbers; numbers that are int64's. -/
set_option linter.unusedSimpArgs false
set_option linter.unusedVariables false
namespace Cal
open Go Go.Proofs
set_option maxRecDepth 100000
def i64 (x : Int) : Prop := -9223372036854775808 ≤ x ∧ x < 9223372036854775808
/-- All numbers that are keys are int64's. -/
structure N64 (n : Net) : Prop where
  nd : ∀ i : Nat, i < n.nodes.length → i64 (rd n.nodes i)
  wi : ∀ i : Nat, i < n.ways.length → i64 (nth n.ways i).id
  wn : ∀ i : Nat, i < n.ways.length → ∀ j : Nat, j < (nth n.ways i).nodes.length → i64 (rd (nth n.ways i).nodes j)
  rf : ∀ i : Nat, i < n.rels.length → i64 (nth n.rels i).fr ∧ i64 (nth n.rels i).to ∧ i64 (nth n.rels i).node
  rv : ∀ i : Nat, i < n.rels.length → ∀ j : Nat, j < (nth n.rels i).via.length → i64 (rd (nth n.rels i).via j)
  tf : ∀ i : Nat, i < n.tcs.length → i64 (nth n.tcs i).fr ∧ i64 (nth n.tcs i).to
def setN (l : List Int) : Nat → List (MK × Bool)
  | 0 => []
  | k + 1 => mset (setN l k) (.i (rd l k)) true
def setW (l : List Way) : Nat → List (MK × Bool)
  | 0 => []
  | k + 1 => mset (setW l k) (.i (nth l k).id) true
theorem setN_get (l : List Int) (x : Int) : ∀ k, (mget (setN l k) (.i x)).getD false = decide (∃ i : Nat, i < k ∧ rd l i = x)
  | 0 => by simp [setN, mget]
  | k + 1 => by
    have ih := setN_get l x k
    rw [setN, mget_mset]
    by_cases h : rd l k = x
    · rw [if_pos (by rw [h])]
      have : ∃ i : Nat, i < k + 1 ∧ rd l i = x := ⟨k, by omega, h⟩
      simp [this]
    · rw [if_neg (by simpa using h), ih]
      congr 1
      apply propext
      exact ⟨fun ⟨i, a, b⟩ => ⟨i, by omega, b⟩, fun ⟨i, a, b⟩ => ⟨i, by rcases Nat.lt_or_ge i k with h1 | h1; exact h1; exact absurd (by rw [← b, show i = k by omega]) h, b⟩⟩
theorem setW_get (l : List Way) (x : Int) : ∀ k, (mget (setW l k) (.i x)).getD false = decide (∃ i : Nat, i < k ∧ (nth l i).id = x)
  | 0 => by simp [setW, mget]
  | k + 1 => by
    have ih := setW_get l x k
    rw [setW, mget_mset]
    by_cases h : (nth l k).id = x
    · rw [if_pos (by rw [h])]
      have : ∃ i : Nat, i < k + 1 ∧ (nth l i).id = x := ⟨k, by omega, h⟩
      simp [this]
    · rw [if_neg (by simpa using h), ih]
      congr 1
      apply propext
      exact ⟨fun ⟨i, a, b⟩ => ⟨i, by omega, b⟩, fun ⟨i, a, b⟩ => ⟨i, by rcases Nat.lt_or_ge i k with h1 | h1; exact h1; exact absurd (by rw [← b, show i = k by omega]) h, b⟩⟩
theorem setN_all (l : List Int) (x : Int) : (mget (setN l l.length) (.i x)).getD false = decide (x ∈ l) := by
  rw [setN_get]
  have : (∃ i : Nat, i < l.length ∧ rd l i = x) ↔ x ∈ l := mem_rd.symm
  simp [this]
theorem setW_all (l : List Way) (x : Int) : (mget (setW l l.length) (.i x)).getD false = decide (isWay l x) := by
  rw [setW_get]
  have : (∃ i : Nat, i < l.length ∧ (nth l i).id = x) ↔ isWay l x := Iff.rfl
  simp [this]
end Cal

set_option linter.unusedSimpArgs false
set_option linter.unusedVariables false
namespace Cal
open Go Go.Proofs
set_option maxRecDepth 100000
/-- The body of a loop. -/
def k16_l0 : Code1 :=
 (.seq
 (.region [] false ([]) [
 ⟨some 53,Op.binOp BinOp.lss 3 (Operand.tmp 52) (Operand.tmp 51) 3,none⟩])
 (.seq
 (.cond (Operand.tmp 53)
 .skip
 (.exit 0))
 (.seq
 (.block 1
 (.seq
 (.region [] false ([]) [
 ⟨some 54,Op.move (Operand.tmp 52),none⟩,
 ⟨some 55,Op.indexAddr 22 (Operand.tmp 50) (Operand.tmp 52),none⟩,
 ⟨some 56,Op.load 2 (Operand.tmp 55),none⟩,
 ⟨some 5,Op.assign (Operand.tmp 54),none⟩,
 ⟨some 6,Op.assign (Operand.tmp 56),none⟩])
 (.seq
 (.seq
 (.region [58] false ([]) [
 ⟨some 57,Op.move (Operand.tmp 6),none⟩,
 ⟨some 58,Op.call {callee:=Callee.value (Operand.func 47),args:=#[Operand.tmp 57],argTypes:=#[2]},none⟩,
 ⟨some 59,Op.unOp UnOp.not 4 (Operand.tmp 58),none⟩,
 ⟨some 60,Op.move (Operand.tmp 59),none⟩,
 ⟨some 61,Op.move (Operand.tmp 5),some (60,false)⟩,
 ⟨some 62,Op.binOp BinOp.gtr 3 (Operand.tmp 61) (Operand.const (Value.int IntKind.i64 0)) 3,some (60,false)⟩,
 ⟨some 63,Op.move (Operand.tmp 62),some (60,false)⟩,
 ⟨some 64,Op.fieldAddr 35 (Operand.tmp 1) 0,some (63,true)⟩,
 ⟨some 65,Op.load 22 (Operand.tmp 64),some (63,true)⟩,
 ⟨some 66,Op.move (Operand.tmp 5),some (63,true)⟩,
 ⟨some 67,Op.binOp BinOp.sub 3 (Operand.tmp 66) (Operand.const (Value.int IntKind.i64 1)) 3,some (63,true)⟩,
 ⟨some 68,Op.indexAddr 22 (Operand.tmp 65) (Operand.tmp 67),some (63,true)⟩,
 ⟨some 69,Op.load 2 (Operand.tmp 68),some (63,true)⟩,
 ⟨some 70,Op.move (Operand.tmp 6),some (63,true)⟩,
 ⟨some 71,Op.binOp BinOp.geq 2 (Operand.tmp 69) (Operand.tmp 70) 2,some (63,true)⟩,
 ⟨some 72,Op.pick (Operand.tmp 63) (Operand.tmp 71) (Operand.const (Value.bool false)),some (60,false)⟩,
 ⟨some 73,Op.pick (Operand.tmp 60) (Operand.const (Value.bool true)) (Operand.tmp 72),none⟩])
 (.cond (Operand.tmp 73)
 (.seq
 (.region [] false ([]) [
 ⟨some 2,Op.assign (Operand.const (Value.bool false)),none⟩])
 .ret)
 .skip))
 (.region [] false ([]) [
 ⟨some 74,Op.move (Operand.tmp 3),none⟩,
 ⟨some 75,Op.move (Operand.tmp 6),none⟩,
 ⟨none,Op.mapUpdate 81 (Operand.tmp 74) (Operand.tmp 75) (Operand.const (Value.bool true)),none⟩]))))
 (.region [] false ([]) [
 ⟨some 76,Op.binOp BinOp.add 3 (Operand.tmp 52) (Operand.const (Value.int IntKind.i64 1)) 3,none⟩,
 ⟨some 52,Op.move (Operand.tmp 76),none⟩]))))
/-- The body of a loop. -/
def k16_l2 : Code1 :=
 (.seq
 (.region [] false ([]) [
 ⟨some 131,Op.binOp BinOp.lss 3 (Operand.tmp 130) (Operand.tmp 129) 3,none⟩])
 (.seq
 (.cond (Operand.tmp 131)
 .skip
 (.exit 4))
 (.seq
 (.block 5
 (.seq
 (.region [] false ([]) [
 ⟨some 132,Op.indexAddr 22 (Operand.tmp 128) (Operand.tmp 130),none⟩,
 ⟨some 133,Op.load 2 (Operand.tmp 132),none⟩,
 ⟨some 10,Op.assign (Operand.tmp 133),none⟩])
 (.seq
 (.region [135] false ([]) [
 ⟨some 134,Op.move (Operand.tmp 10),none⟩,
 ⟨some 135,Op.call {callee:=Callee.value (Operand.func 47),args:=#[Operand.tmp 134],argTypes:=#[2]},none⟩,
 ⟨some 136,Op.unOp UnOp.not 4 (Operand.tmp 135),none⟩])
 (.cond (Operand.tmp 136)
 (.seq
 (.region [] false ([]) [
 ⟨some 2,Op.assign (Operand.const (Value.bool false)),none⟩])
 .ret)
 .skip))))
 (.region [] false ([]) [
 ⟨some 137,Op.binOp BinOp.add 3 (Operand.tmp 130) (Operand.const (Value.int IntKind.i64 1)) 3,none⟩,
 ⟨some 130,Op.move (Operand.tmp 137),none⟩]))))
/-- The body of a loop. -/
def k16_l3 : Code1 :=
 (.seq
 (.region [] false ([]) [
 ⟨some 142,Op.binOp BinOp.lss 3 (Operand.tmp 141) (Operand.tmp 140) 3,none⟩])
 (.seq
 (.cond (Operand.tmp 142)
 .skip
 (.exit 6))
 (.seq
 (.block 7
 (.seq
 (.region [] false ([]) [
 ⟨some 143,Op.indexAddr 22 (Operand.tmp 139) (Operand.tmp 141),none⟩,
 ⟨some 144,Op.load 2 (Operand.tmp 143),none⟩,
 ⟨some 12,Op.assign (Operand.tmp 144),none⟩])
 (.seq
 (.region [] false ([]) [
 ⟨some 145,Op.move (Operand.tmp 3),none⟩,
 ⟨some 146,Op.move (Operand.tmp 12),none⟩,
 ⟨some 147,Op.lookup 81 (Operand.tmp 145) (Operand.tmp 146) false,none⟩,
 ⟨some 148,Op.unOp UnOp.not 4 (Operand.tmp 147),none⟩])
 (.cond (Operand.tmp 148)
 (.seq
 (.region [] false ([]) [
 ⟨some 2,Op.assign (Operand.const (Value.bool false)),none⟩])
 .ret)
 .skip))))
 (.region [] false ([]) [
 ⟨some 149,Op.binOp BinOp.add 3 (Operand.tmp 141) (Operand.const (Value.int IntKind.i64 1)) 3,none⟩,
 ⟨some 141,Op.move (Operand.tmp 149),none⟩]))))
/-- The body of a loop. -/
def k16_l1 : Code1 :=
 (.seq
 (.region [] false ([]) [
 ⟨some 81,Op.binOp BinOp.lss 3 (Operand.tmp 80) (Operand.tmp 79) 3,none⟩])
 (.seq
 (.cond (Operand.tmp 81)
 .skip
 (.exit 2))
 (.seq
 (.block 3
 (.seq
 (.region [8] false ([]) [
 ⟨some 82,Op.move (Operand.tmp 80),none⟩,
 ⟨some 83,Op.indexAddr 31 (Operand.tmp 78) (Operand.tmp 80),none⟩,
 ⟨some 84,Op.load 55 (Operand.tmp 83),none⟩,
 ⟨some 8,Op.alloc 55,none⟩,
 ⟨some 7,Op.assign (Operand.tmp 82),none⟩,
 ⟨none,Op.store 55 (Operand.tmp 8) (Operand.tmp 84),none⟩])
 (.seq
 (.seq
 (.region [87] true ([]) [
 ⟨some 85,Op.fieldAddr 55 (Operand.tmp 8) 0,none⟩,
 ⟨some 86,Op.load 2 (Operand.tmp 85),none⟩,
 ⟨some 87,Op.call {callee:=Callee.value (Operand.func 47),args:=#[Operand.tmp 86],argTypes:=#[2]},none⟩,
 ⟨some 88,Op.unOp UnOp.not 4 (Operand.tmp 87),none⟩,
 ⟨some 89,Op.move (Operand.tmp 88),none⟩,
 ⟨some 90,Op.move (Operand.tmp 7),some (89,false)⟩,
 ⟨some 91,Op.binOp BinOp.gtr 3 (Operand.tmp 90) (Operand.const (Value.int IntKind.i64 0)) 3,some (89,false)⟩,
 ⟨some 92,Op.move (Operand.tmp 91),some (89,false)⟩,
 ⟨some 93,Op.fieldAddr 35 (Operand.tmp 1) 1,some (92,true)⟩,
 ⟨some 94,Op.load 31 (Operand.tmp 93),some (92,true)⟩,
 ⟨some 95,Op.move (Operand.tmp 7),some (92,true)⟩,
 ⟨some 96,Op.binOp BinOp.sub 3 (Operand.tmp 95) (Operand.const (Value.int IntKind.i64 1)) 3,some (92,true)⟩,
 ⟨some 97,Op.indexAddr 31 (Operand.tmp 94) (Operand.tmp 96),some (92,true)⟩,
 ⟨some 98,Op.fieldAddr 55 (Operand.tmp 97) 0,some (92,true)⟩,
 ⟨some 99,Op.load 2 (Operand.tmp 98),some (92,true)⟩,
 ⟨some 100,Op.fieldAddr 55 (Operand.tmp 8) 0,some (92,true)⟩,
 ⟨some 101,Op.load 2 (Operand.tmp 100),some (92,true)⟩,
 ⟨some 102,Op.binOp BinOp.geq 2 (Operand.tmp 99) (Operand.tmp 101) 2,some (92,true)⟩,
 ⟨some 103,Op.pick (Operand.tmp 92) (Operand.tmp 102) (Operand.const (Value.bool false)),some (89,false)⟩,
 ⟨some 104,Op.pick (Operand.tmp 89) (Operand.const (Value.bool true)) (Operand.tmp 103),none⟩,
 ⟨some 105,Op.move (Operand.tmp 104),none⟩,
 ⟨some 106,Op.fieldAddr 55 (Operand.tmp 8) 3,some (105,false)⟩,
 ⟨some 107,Op.load 22 (Operand.tmp 106),some (105,false)⟩,
 ⟨some 108,Op.call {callee:=Callee.builtin Builtin.len,args:=#[Operand.tmp 107],argTypes:=#[22]},some (105,false)⟩,
 ⟨some 109,Op.binOp BinOp.lss 3 (Operand.tmp 108) (Operand.const (Value.int IntKind.i64 1)) 3,some (105,false)⟩,
 ⟨some 110,Op.pick (Operand.tmp 105) (Operand.const (Value.bool true)) (Operand.tmp 109),none⟩,
 ⟨some 111,Op.move (Operand.tmp 110),none⟩,
 ⟨some 112,Op.fieldAddr 55 (Operand.tmp 8) 3,some (111,false)⟩,
 ⟨some 113,Op.load 22 (Operand.tmp 112),some (111,false)⟩,
 ⟨some 114,Op.call {callee:=Callee.builtin Builtin.len,args:=#[Operand.tmp 113],argTypes:=#[22]},some (111,false)⟩,
 ⟨some 115,Op.binOp BinOp.gtr 3 (Operand.tmp 114) (Operand.const (Value.int IntKind.i64 100)) 3,some (111,false)⟩,
 ⟨some 116,Op.pick (Operand.tmp 111) (Operand.const (Value.bool true)) (Operand.tmp 115),none⟩,
 ⟨some 117,Op.move (Operand.tmp 116),none⟩,
 ⟨some 118,Op.fieldAddr 55 (Operand.tmp 8) 2,some (117,false)⟩,
 ⟨some 119,Op.load 22 (Operand.tmp 118),some (117,false)⟩,
 ⟨some 120,Op.call {callee:=Callee.builtin Builtin.len,args:=#[Operand.tmp 119],argTypes:=#[22]},some (117,false)⟩,
 ⟨some 121,Op.fieldAddr 55 (Operand.tmp 8) 3,some (117,false)⟩,
 ⟨some 122,Op.load 22 (Operand.tmp 121),some (117,false)⟩,
 ⟨some 123,Op.call {callee:=Callee.builtin Builtin.len,args:=#[Operand.tmp 122],argTypes:=#[22]},some (117,false)⟩,
 ⟨some 124,Op.binOp BinOp.add 3 (Operand.tmp 123) (Operand.const (Value.int IntKind.i64 1)) 3,some (117,false)⟩,
 ⟨some 125,Op.binOp BinOp.neq 3 (Operand.tmp 120) (Operand.tmp 124) 3,some (117,false)⟩,
 ⟨some 126,Op.pick (Operand.tmp 117) (Operand.const (Value.bool true)) (Operand.tmp 125),none⟩])
 (.cond (Operand.tmp 126)
 (.seq
 (.region [] false ([]) [
 ⟨some 2,Op.assign (Operand.const (Value.bool false)),none⟩])
 .ret)
 .skip))
 (.seq
 (.seq
 (.region [] false ([]) [
 ⟨some 127,Op.fieldAddr 55 (Operand.tmp 8) 3,none⟩,
 ⟨some 128,Op.load 22 (Operand.tmp 127),none⟩,
 ⟨some 129,Op.call {callee:=Callee.builtin Builtin.len,args:=#[Operand.tmp 128],argTypes:=#[22]},none⟩,
 ⟨some 130,Op.move (Operand.const (Value.int IntKind.i64 0)),none⟩])
 (.block 4
 (.loop k16_l2)))
 (.seq
 (.seq
 (.region [] false ([]) [
 ⟨some 138,Op.fieldAddr 55 (Operand.tmp 8) 2,none⟩,
 ⟨some 139,Op.load 22 (Operand.tmp 138),none⟩,
 ⟨some 140,Op.call {callee:=Callee.builtin Builtin.len,args:=#[Operand.tmp 139],argTypes:=#[22]},none⟩,
 ⟨some 141,Op.move (Operand.const (Value.int IntKind.i64 0)),none⟩])
 (.block 6
 (.loop k16_l3)))
 (.region [] false ([]) [
 ⟨some 150,Op.move (Operand.tmp 4),none⟩,
 ⟨some 151,Op.fieldAddr 55 (Operand.tmp 8) 0,none⟩,
 ⟨some 152,Op.load 2 (Operand.tmp 151),none⟩,
 ⟨none,Op.mapUpdate 81 (Operand.tmp 150) (Operand.tmp 152) (Operand.const (Value.bool true)),none⟩]))))))
 (.region [] false ([]) [
 ⟨some 153,Op.binOp BinOp.add 3 (Operand.tmp 80) (Operand.const (Value.int IntKind.i64 1)) 3,none⟩,
 ⟨some 80,Op.move (Operand.tmp 153),none⟩]))))
/-- The body of a loop. -/
def k16_l5 : Code1 :=
 (.seq
 (.region [] false ([]) [
 ⟨some 239,Op.binOp BinOp.lss 3 (Operand.tmp 238) (Operand.tmp 237) 3,none⟩])
 (.seq
 (.cond (Operand.tmp 239)
 .skip
 (.exit 10))
 (.seq
 (.block 11
 (.seq
 (.region [] false ([]) [
 ⟨some 240,Op.indexAddr 22 (Operand.tmp 236) (Operand.tmp 238),none⟩,
 ⟨some 241,Op.load 2 (Operand.tmp 240),none⟩,
 ⟨some 16,Op.assign (Operand.tmp 241),none⟩])
 (.seq
 (.region [] false ([]) [
 ⟨some 242,Op.move (Operand.tmp 4),none⟩,
 ⟨some 243,Op.move (Operand.tmp 16),none⟩,
 ⟨some 244,Op.lookup 81 (Operand.tmp 242) (Operand.tmp 243) false,none⟩,
 ⟨some 245,Op.unOp UnOp.not 4 (Operand.tmp 244),none⟩])
 (.cond (Operand.tmp 245)
 (.seq
 (.region [] false ([]) [
 ⟨some 2,Op.assign (Operand.const (Value.bool false)),none⟩])
 .ret)
 .skip))))
 (.region [] false ([]) [
 ⟨some 246,Op.binOp BinOp.add 3 (Operand.tmp 238) (Operand.const (Value.int IntKind.i64 1)) 3,none⟩,
 ⟨some 238,Op.move (Operand.tmp 246),none⟩]))))
/-- The body of a loop. -/
def k16_l4 : Code1 :=
 (.seq
 (.region [] false ([]) [
 ⟨some 162,Op.binOp BinOp.lss 3 (Operand.tmp 161) (Operand.tmp 160) 3,none⟩])
 (.seq
 (.cond (Operand.tmp 162)
 .skip
 (.exit 8))
 (.seq
 (.block 9
 (.seq
 (.region [14] false ([]) [
 ⟨some 163,Op.move (Operand.tmp 161),none⟩,
 ⟨some 164,Op.indexAddr 32 (Operand.tmp 159) (Operand.tmp 161),none⟩,
 ⟨some 165,Op.load 58 (Operand.tmp 164),none⟩,
 ⟨some 14,Op.alloc 58,none⟩,
 ⟨some 13,Op.assign (Operand.tmp 163),none⟩,
 ⟨none,Op.store 58 (Operand.tmp 14) (Operand.tmp 165),none⟩])
 (.seq
 (.seq
 (.region [168] true ([]) [
 ⟨some 166,Op.fieldAddr 58 (Operand.tmp 14) 0,none⟩,
 ⟨some 167,Op.load 2 (Operand.tmp 166),none⟩,
 ⟨some 168,Op.call {callee:=Callee.value (Operand.func 47),args:=#[Operand.tmp 167],argTypes:=#[2]},none⟩,
 ⟨some 169,Op.unOp UnOp.not 4 (Operand.tmp 168),none⟩,
 ⟨some 170,Op.move (Operand.tmp 169),none⟩,
 ⟨some 171,Op.move (Operand.tmp 13),some (170,false)⟩,
 ⟨some 172,Op.binOp BinOp.gtr 3 (Operand.tmp 171) (Operand.const (Value.int IntKind.i64 0)) 3,some (170,false)⟩,
 ⟨some 173,Op.move (Operand.tmp 172),some (170,false)⟩,
 ⟨some 174,Op.fieldAddr 35 (Operand.tmp 1) 2,some (173,true)⟩,
 ⟨some 175,Op.load 32 (Operand.tmp 174),some (173,true)⟩,
 ⟨some 176,Op.move (Operand.tmp 13),some (173,true)⟩,
 ⟨some 177,Op.binOp BinOp.sub 3 (Operand.tmp 176) (Operand.const (Value.int IntKind.i64 1)) 3,some (173,true)⟩,
 ⟨some 178,Op.indexAddr 32 (Operand.tmp 175) (Operand.tmp 177),some (173,true)⟩,
 ⟨some 179,Op.fieldAddr 58 (Operand.tmp 178) 0,some (173,true)⟩,
 ⟨some 180,Op.load 2 (Operand.tmp 179),some (173,true)⟩,
 ⟨some 181,Op.fieldAddr 58 (Operand.tmp 14) 0,some (173,true)⟩,
 ⟨some 182,Op.load 2 (Operand.tmp 181),some (173,true)⟩,
 ⟨some 183,Op.binOp BinOp.geq 2 (Operand.tmp 180) (Operand.tmp 182) 2,some (173,true)⟩,
 ⟨some 184,Op.pick (Operand.tmp 173) (Operand.tmp 183) (Operand.const (Value.bool false)),some (170,false)⟩,
 ⟨some 185,Op.pick (Operand.tmp 170) (Operand.const (Value.bool true)) (Operand.tmp 184),none⟩,
 ⟨some 186,Op.move (Operand.tmp 185),none⟩,
 ⟨some 187,Op.move (Operand.tmp 4),some (186,false)⟩,
 ⟨some 188,Op.fieldAddr 58 (Operand.tmp 14) 2,some (186,false)⟩,
 ⟨some 189,Op.load 2 (Operand.tmp 188),some (186,false)⟩,
 ⟨some 190,Op.lookup 81 (Operand.tmp 187) (Operand.tmp 189) false,some (186,false)⟩,
 ⟨some 191,Op.unOp UnOp.not 4 (Operand.tmp 190),some (186,false)⟩,
 ⟨some 192,Op.pick (Operand.tmp 186) (Operand.const (Value.bool true)) (Operand.tmp 191),none⟩,
 ⟨some 193,Op.move (Operand.tmp 192),none⟩,
 ⟨some 194,Op.move (Operand.tmp 4),some (193,false)⟩,
 ⟨some 195,Op.fieldAddr 58 (Operand.tmp 14) 3,some (193,false)⟩,
 ⟨some 196,Op.load 2 (Operand.tmp 195),some (193,false)⟩,
 ⟨some 197,Op.lookup 81 (Operand.tmp 194) (Operand.tmp 196) false,some (193,false)⟩,
 ⟨some 198,Op.unOp UnOp.not 4 (Operand.tmp 197),some (193,false)⟩,
 ⟨some 199,Op.pick (Operand.tmp 193) (Operand.const (Value.bool true)) (Operand.tmp 198),none⟩])
 (.cond (Operand.tmp 199)
 (.seq
 (.region [] false ([]) [
 ⟨some 2,Op.assign (Operand.const (Value.bool false)),none⟩])
 .ret)
 .skip))
 (.seq
 (.seq
 (.region [] false ([]) [
 ⟨some 200,Op.fieldAddr 58 (Operand.tmp 14) 4,none⟩,
 ⟨some 201,Op.load 4 (Operand.tmp 200),none⟩,
 ⟨some 202,Op.move (Operand.tmp 201),none⟩,
 ⟨some 203,Op.move (Operand.tmp 3),some (202,true)⟩,
 ⟨some 204,Op.fieldAddr 58 (Operand.tmp 14) 5,some (202,true)⟩,
 ⟨some 205,Op.load 2 (Operand.tmp 204),some (202,true)⟩,
 ⟨some 206,Op.lookup 81 (Operand.tmp 203) (Operand.tmp 205) false,some (202,true)⟩,
 ⟨some 207,Op.unOp UnOp.not 4 (Operand.tmp 206),some (202,true)⟩,
 ⟨some 208,Op.move (Operand.tmp 207),some (202,true)⟩,
 ⟨some 209,Op.fieldAddr 58 (Operand.tmp 14) 6,some (208,false)⟩,
 ⟨some 210,Op.load 22 (Operand.tmp 209),some (208,false)⟩,
 ⟨some 211,Op.call {callee:=Callee.builtin Builtin.len,args:=#[Operand.tmp 210],argTypes:=#[22]},some (208,false)⟩,
 ⟨some 212,Op.binOp BinOp.gtr 3 (Operand.tmp 211) (Operand.const (Value.int IntKind.i64 0)) 3,some (208,false)⟩,
 ⟨some 213,Op.pick (Operand.tmp 208) (Operand.const (Value.bool true)) (Operand.tmp 212),some (202,true)⟩,
 ⟨some 214,Op.pick (Operand.tmp 202) (Operand.tmp 213) (Operand.const (Value.bool false)),none⟩])
 (.cond (Operand.tmp 214)
 (.seq
 (.region [] false ([]) [
 ⟨some 2,Op.assign (Operand.const (Value.bool false)),none⟩])
 .ret)
 .skip))
 (.seq
 (.seq
 (.region [] false ([]) [
 ⟨some 215,Op.fieldAddr 58 (Operand.tmp 14) 4,none⟩,
 ⟨some 216,Op.load 4 (Operand.tmp 215),none⟩,
 ⟨some 217,Op.unOp UnOp.not 4 (Operand.tmp 216),none⟩,
 ⟨some 218,Op.move (Operand.tmp 217),none⟩,
 ⟨some 219,Op.fieldAddr 58 (Operand.tmp 14) 5,some (218,true)⟩,
 ⟨some 220,Op.load 2 (Operand.tmp 219),some (218,true)⟩,
 ⟨some 221,Op.binOp BinOp.neq 2 (Operand.tmp 220) (Operand.const (Value.int IntKind.i64 0)) 2,some (218,true)⟩,
 ⟨some 222,Op.move (Operand.tmp 221),some (218,true)⟩,
 ⟨some 223,Op.fieldAddr 58 (Operand.tmp 14) 6,some (222,false)⟩,
 ⟨some 224,Op.load 22 (Operand.tmp 223),some (222,false)⟩,
 ⟨some 225,Op.call {callee:=Callee.builtin Builtin.len,args:=#[Operand.tmp 224],argTypes:=#[22]},some (222,false)⟩,
 ⟨some 226,Op.binOp BinOp.lss 3 (Operand.tmp 225) (Operand.const (Value.int IntKind.i64 1)) 3,some (222,false)⟩,
 ⟨some 227,Op.pick (Operand.tmp 222) (Operand.const (Value.bool true)) (Operand.tmp 226),some (218,true)⟩,
 ⟨some 228,Op.move (Operand.tmp 227),some (218,true)⟩,
 ⟨some 229,Op.fieldAddr 58 (Operand.tmp 14) 6,some (228,false)⟩,
 ⟨some 230,Op.load 22 (Operand.tmp 229),some (228,false)⟩,
 ⟨some 231,Op.call {callee:=Callee.builtin Builtin.len,args:=#[Operand.tmp 230],argTypes:=#[22]},some (228,false)⟩,
 ⟨some 232,Op.binOp BinOp.gtr 3 (Operand.tmp 231) (Operand.const (Value.int IntKind.i64 4)) 3,some (228,false)⟩,
 ⟨some 233,Op.pick (Operand.tmp 228) (Operand.const (Value.bool true)) (Operand.tmp 232),some (218,true)⟩,
 ⟨some 234,Op.pick (Operand.tmp 218) (Operand.tmp 233) (Operand.const (Value.bool false)),none⟩])
 (.cond (Operand.tmp 234)
 (.seq
 (.region [] false ([]) [
 ⟨some 2,Op.assign (Operand.const (Value.bool false)),none⟩])
 .ret)
 .skip))
 (.seq
 (.region [] false ([]) [
 ⟨some 235,Op.fieldAddr 58 (Operand.tmp 14) 6,none⟩,
 ⟨some 236,Op.load 22 (Operand.tmp 235),none⟩,
 ⟨some 237,Op.call {callee:=Callee.builtin Builtin.len,args:=#[Operand.tmp 236],argTypes:=#[22]},none⟩,
 ⟨some 238,Op.move (Operand.const (Value.int IntKind.i64 0)),none⟩])
 (.block 10
 (.loop k16_l5))))))))
 (.region [] false ([]) [
 ⟨some 247,Op.binOp BinOp.add 3 (Operand.tmp 161) (Operand.const (Value.int IntKind.i64 1)) 3,none⟩,
 ⟨some 161,Op.move (Operand.tmp 247),none⟩]))))
/-- The body of a loop. -/
def k16_l6 : Code1 :=
 (.seq
 (.region [] false ([]) [
 ⟨some 252,Op.binOp BinOp.lss 3 (Operand.tmp 251) (Operand.tmp 250) 3,none⟩])
 (.seq
 (.cond (Operand.tmp 252)
 .skip
 (.exit 12))
 (.seq
 (.block 13
 (.seq
 (.region [18] false ([]) [
 ⟨some 253,Op.move (Operand.tmp 251),none⟩,
 ⟨some 254,Op.indexAddr 33 (Operand.tmp 249) (Operand.tmp 251),none⟩,
 ⟨some 255,Op.load 60 (Operand.tmp 254),none⟩,
 ⟨some 18,Op.alloc 60,none⟩,
 ⟨some 17,Op.assign (Operand.tmp 253),none⟩,
 ⟨none,Op.store 60 (Operand.tmp 18) (Operand.tmp 255),none⟩])
 (.seq
 (.seq
 (.region [271] false ([]) [
 ⟨some 256,Op.move (Operand.tmp 4),none⟩,
 ⟨some 257,Op.fieldAddr 60 (Operand.tmp 18) 0,none⟩,
 ⟨some 258,Op.load 2 (Operand.tmp 257),none⟩,
 ⟨some 259,Op.lookup 81 (Operand.tmp 256) (Operand.tmp 258) false,none⟩,
 ⟨some 260,Op.unOp UnOp.not 4 (Operand.tmp 259),none⟩,
 ⟨some 261,Op.move (Operand.tmp 260),none⟩,
 ⟨some 262,Op.move (Operand.tmp 4),some (261,false)⟩,
 ⟨some 263,Op.fieldAddr 60 (Operand.tmp 18) 1,some (261,false)⟩,
 ⟨some 264,Op.load 2 (Operand.tmp 263),some (261,false)⟩,
 ⟨some 265,Op.lookup 81 (Operand.tmp 262) (Operand.tmp 264) false,some (261,false)⟩,
 ⟨some 266,Op.unOp UnOp.not 4 (Operand.tmp 265),some (261,false)⟩,
 ⟨some 267,Op.pick (Operand.tmp 261) (Operand.const (Value.bool true)) (Operand.tmp 266),none⟩,
 ⟨some 268,Op.move (Operand.tmp 267),none⟩,
 ⟨some 269,Op.fieldAddr 60 (Operand.tmp 18) 2,some (268,false)⟩,
 ⟨some 270,Op.load 2 (Operand.tmp 269),some (268,false)⟩,
 ⟨some 271,Op.call {callee:=Callee.value (Operand.func 47),args:=#[Operand.tmp 270],argTypes:=#[2]},some (268,false)⟩,
 ⟨some 272,Op.unOp UnOp.not 4 (Operand.tmp 271),some (268,false)⟩,
 ⟨some 273,Op.pick (Operand.tmp 268) (Operand.const (Value.bool true)) (Operand.tmp 272),none⟩])
 (.cond (Operand.tmp 273)
 (.seq
 (.region [] false ([]) [
 ⟨some 2,Op.assign (Operand.const (Value.bool false)),none⟩])
 .ret)
 .skip))
 (.seq
 (.region [] true ([]) [
 ⟨some 274,Op.move (Operand.tmp 17),none⟩,
 ⟨some 275,Op.binOp BinOp.gtr 3 (Operand.tmp 274) (Operand.const (Value.int IntKind.i64 0)) 3,none⟩,
 ⟨some 276,Op.move (Operand.tmp 275),none⟩,
 ⟨some 277,Op.fieldAddr 35 (Operand.tmp 1) 3,some (276,true)⟩,
 ⟨some 278,Op.load 33 (Operand.tmp 277),some (276,true)⟩,
 ⟨some 279,Op.move (Operand.tmp 17),some (276,true)⟩,
 ⟨some 280,Op.binOp BinOp.sub 3 (Operand.tmp 279) (Operand.const (Value.int IntKind.i64 1)) 3,some (276,true)⟩,
 ⟨some 281,Op.indexAddr 33 (Operand.tmp 278) (Operand.tmp 280),some (276,true)⟩,
 ⟨some 282,Op.fieldAddr 60 (Operand.tmp 281) 0,some (276,true)⟩,
 ⟨some 283,Op.load 2 (Operand.tmp 282),some (276,true)⟩,
 ⟨some 284,Op.fieldAddr 60 (Operand.tmp 18) 0,some (276,true)⟩,
 ⟨some 285,Op.load 2 (Operand.tmp 284),some (276,true)⟩,
 ⟨some 286,Op.binOp BinOp.gtr 2 (Operand.tmp 283) (Operand.tmp 285) 2,some (276,true)⟩,
 ⟨some 287,Op.move (Operand.tmp 286),some (276,true)⟩,
 ⟨some 288,Op.fieldAddr 35 (Operand.tmp 1) 3,some (287,false)⟩,
 ⟨some 289,Op.load 33 (Operand.tmp 288),some (287,false)⟩,
 ⟨some 290,Op.move (Operand.tmp 17),some (287,false)⟩,
 ⟨some 291,Op.binOp BinOp.sub 3 (Operand.tmp 290) (Operand.const (Value.int IntKind.i64 1)) 3,some (287,false)⟩,
 ⟨some 292,Op.indexAddr 33 (Operand.tmp 289) (Operand.tmp 291),some (287,false)⟩,
 ⟨some 293,Op.fieldAddr 60 (Operand.tmp 292) 0,some (287,false)⟩,
 ⟨some 294,Op.load 2 (Operand.tmp 293),some (287,false)⟩,
 ⟨some 295,Op.fieldAddr 60 (Operand.tmp 18) 0,some (287,false)⟩,
 ⟨some 296,Op.load 2 (Operand.tmp 295),some (287,false)⟩,
 ⟨some 297,Op.binOp BinOp.eql 2 (Operand.tmp 294) (Operand.tmp 296) 2,some (287,false)⟩,
 ⟨some 298,Op.move (Operand.tmp 297),some (287,false)⟩,
 ⟨some 299,Op.fieldAddr 35 (Operand.tmp 1) 3,some (298,true)⟩,
 ⟨some 300,Op.load 33 (Operand.tmp 299),some (298,true)⟩,
 ⟨some 301,Op.move (Operand.tmp 17),some (298,true)⟩,
 ⟨some 302,Op.binOp BinOp.sub 3 (Operand.tmp 301) (Operand.const (Value.int IntKind.i64 1)) 3,some (298,true)⟩,
 ⟨some 303,Op.indexAddr 33 (Operand.tmp 300) (Operand.tmp 302),some (298,true)⟩,
 ⟨some 304,Op.fieldAddr 60 (Operand.tmp 303) 1,some (298,true)⟩,
 ⟨some 305,Op.load 2 (Operand.tmp 304),some (298,true)⟩,
 ⟨some 306,Op.fieldAddr 60 (Operand.tmp 18) 1,some (298,true)⟩,
 ⟨some 307,Op.load 2 (Operand.tmp 306),some (298,true)⟩,
 ⟨some 308,Op.binOp BinOp.geq 2 (Operand.tmp 305) (Operand.tmp 307) 2,some (298,true)⟩,
 ⟨some 309,Op.pick (Operand.tmp 298) (Operand.tmp 308) (Operand.const (Value.bool false)),some (287,false)⟩,
 ⟨some 310,Op.pick (Operand.tmp 287) (Operand.const (Value.bool true)) (Operand.tmp 309),some (276,true)⟩,
 ⟨some 311,Op.pick (Operand.tmp 276) (Operand.tmp 310) (Operand.const (Value.bool false)),none⟩])
 (.cond (Operand.tmp 311)
 (.seq
 (.region [] false ([]) [
 ⟨some 2,Op.assign (Operand.const (Value.bool false)),none⟩])
 .ret)
 .skip)))))
 (.region [] false ([]) [
 ⟨some 312,Op.binOp BinOp.add 3 (Operand.tmp 251) (Operand.const (Value.int IntKind.i64 1)) 3,none⟩,
 ⟨some 251,Op.move (Operand.tmp 312),none⟩]))))
/-- The code of impl.ValidNet, its loops' bodies named. -/
def k16 : Code1 :=
 (.seq
 (.region [1] false ([]) [
 ⟨some 1,Op.box 35 (Operand.tmp 0),none⟩,
 ⟨some 2,Op.assign (Operand.const (Value.bool false)),none⟩])
 (.seq
 (.seq
 (.region [21] false ([]) [
 ⟨some 19,Op.fieldAddr 35 (Operand.tmp 1) 4,none⟩,
 ⟨some 20,Op.load 2 (Operand.tmp 19),none⟩,
 ⟨some 21,Op.call {callee:=Callee.value (Operand.func 47),args:=#[Operand.tmp 20],argTypes:=#[2]},none⟩,
 ⟨some 22,Op.unOp UnOp.not 4 (Operand.tmp 21),none⟩,
 ⟨some 23,Op.move (Operand.tmp 22),none⟩,
 ⟨some 24,Op.fieldAddr 35 (Operand.tmp 1) 0,some (23,false)⟩,
 ⟨some 25,Op.load 22 (Operand.tmp 24),some (23,false)⟩,
 ⟨some 26,Op.call {callee:=Callee.builtin Builtin.len,args:=#[Operand.tmp 25],argTypes:=#[22]},some (23,false)⟩,
 ⟨some 27,Op.binOp BinOp.gtr 3 (Operand.tmp 26) (Operand.const (Value.int IntKind.i64 2000)) 3,some (23,false)⟩,
 ⟨some 28,Op.pick (Operand.tmp 23) (Operand.const (Value.bool true)) (Operand.tmp 27),none⟩,
 ⟨some 29,Op.move (Operand.tmp 28),none⟩,
 ⟨some 30,Op.fieldAddr 35 (Operand.tmp 1) 1,some (29,false)⟩,
 ⟨some 31,Op.load 31 (Operand.tmp 30),some (29,false)⟩,
 ⟨some 32,Op.call {callee:=Callee.builtin Builtin.len,args:=#[Operand.tmp 31],argTypes:=#[31]},some (29,false)⟩,
 ⟨some 33,Op.binOp BinOp.gtr 3 (Operand.tmp 32) (Operand.const (Value.int IntKind.i64 2000)) 3,some (29,false)⟩,
 ⟨some 34,Op.pick (Operand.tmp 29) (Operand.const (Value.bool true)) (Operand.tmp 33),none⟩,
 ⟨some 35,Op.move (Operand.tmp 34),none⟩,
 ⟨some 36,Op.fieldAddr 35 (Operand.tmp 1) 2,some (35,false)⟩,
 ⟨some 37,Op.load 32 (Operand.tmp 36),some (35,false)⟩,
 ⟨some 38,Op.call {callee:=Callee.builtin Builtin.len,args:=#[Operand.tmp 37],argTypes:=#[32]},some (35,false)⟩,
 ⟨some 39,Op.binOp BinOp.gtr 3 (Operand.tmp 38) (Operand.const (Value.int IntKind.i64 1000)) 3,some (35,false)⟩,
 ⟨some 40,Op.pick (Operand.tmp 35) (Operand.const (Value.bool true)) (Operand.tmp 39),none⟩,
 ⟨some 41,Op.move (Operand.tmp 40),none⟩,
 ⟨some 42,Op.fieldAddr 35 (Operand.tmp 1) 3,some (41,false)⟩,
 ⟨some 43,Op.load 33 (Operand.tmp 42),some (41,false)⟩,
 ⟨some 44,Op.call {callee:=Callee.builtin Builtin.len,args:=#[Operand.tmp 43],argTypes:=#[33]},some (41,false)⟩,
 ⟨some 45,Op.binOp BinOp.gtr 3 (Operand.tmp 44) (Operand.const (Value.int IntKind.i64 2000)) 3,some (41,false)⟩,
 ⟨some 46,Op.pick (Operand.tmp 41) (Operand.const (Value.bool true)) (Operand.tmp 45),none⟩])
 (.cond (Operand.tmp 46)
 (.seq
 (.region [] false ([]) [
 ⟨some 2,Op.assign (Operand.const (Value.bool false)),none⟩])
 .ret)
 .skip))
 (.seq
 (.region [47] false ([]) [
 ⟨some 47,Op.makeMap 81 none,none⟩,
 ⟨some 3,Op.assign (Operand.tmp 47),none⟩])
 (.seq
 (.region [48] false ([]) [
 ⟨some 48,Op.makeMap 81 none,none⟩,
 ⟨some 4,Op.assign (Operand.tmp 48),none⟩])
 (.seq
 (.seq
 (.region [] false ([]) [
 ⟨some 49,Op.fieldAddr 35 (Operand.tmp 1) 0,none⟩,
 ⟨some 50,Op.load 22 (Operand.tmp 49),none⟩,
 ⟨some 51,Op.call {callee:=Callee.builtin Builtin.len,args:=#[Operand.tmp 50],argTypes:=#[22]},none⟩,
 ⟨some 52,Op.move (Operand.const (Value.int IntKind.i64 0)),none⟩])
 (.block 0
 (.loop k16_l0)))
 (.seq
 (.seq
 (.region [] false ([]) [
 ⟨some 77,Op.fieldAddr 35 (Operand.tmp 1) 1,none⟩,
 ⟨some 78,Op.load 31 (Operand.tmp 77),none⟩,
 ⟨some 79,Op.call {callee:=Callee.builtin Builtin.len,args:=#[Operand.tmp 78],argTypes:=#[31]},none⟩,
 ⟨some 80,Op.move (Operand.const (Value.int IntKind.i64 0)),none⟩])
 (.block 2
 (.loop k16_l1)))
 (.seq
 (.seq
 (.region [156] false ([]) [
 ⟨some 154,Op.fieldAddr 35 (Operand.tmp 1) 1,none⟩,
 ⟨some 155,Op.load 31 (Operand.tmp 154),none⟩,
 ⟨some 156,Op.call {callee:=Callee.value (Operand.func 48),args:=#[Operand.tmp 155],argTypes:=#[31]},none⟩,
 ⟨some 157,Op.binOp BinOp.gtr 3 (Operand.tmp 156) (Operand.const (Value.int IntKind.i64 4000)) 3,none⟩])
 (.cond (Operand.tmp 157)
 (.seq
 (.region [] false ([]) [
 ⟨some 2,Op.assign (Operand.const (Value.bool false)),none⟩])
 .ret)
 .skip))
 (.seq
 (.seq
 (.region [] false ([]) [
 ⟨some 158,Op.fieldAddr 35 (Operand.tmp 1) 2,none⟩,
 ⟨some 159,Op.load 32 (Operand.tmp 158),none⟩,
 ⟨some 160,Op.call {callee:=Callee.builtin Builtin.len,args:=#[Operand.tmp 159],argTypes:=#[32]},none⟩,
 ⟨some 161,Op.move (Operand.const (Value.int IntKind.i64 0)),none⟩])
 (.block 8
 (.loop k16_l4)))
 (.seq
 (.seq
 (.region [] false ([]) [
 ⟨some 248,Op.fieldAddr 35 (Operand.tmp 1) 3,none⟩,
 ⟨some 249,Op.load 33 (Operand.tmp 248),none⟩,
 ⟨some 250,Op.call {callee:=Callee.builtin Builtin.len,args:=#[Operand.tmp 249],argTypes:=#[33]},none⟩,
 ⟨some 251,Op.move (Operand.const (Value.int IntKind.i64 0)),none⟩])
 (.block 12
 (.loop k16_l6)))
 (.seq
 (.region [] false ([]) [
 ⟨some 2,Op.assign (Operand.const (Value.bool true)),none⟩])
 .ret))))))))))
set_option maxHeartbeats 4000000 in
theorem vnI_l0 (n : Net) (h : LN n) (h64 : N64 n) {K : St → Prop} (hE : ∀ s : St, (s.tm 1 = .ptr (1, 0) 0 0 ∧ s.ob (1, 0) = objN n ∧ s.tm 3 = .mp (47, 0) ∧ s.ob (47, 0) = some (.map 0 (vmap Value.bool (setN n.nodes n.nodes.length))) ∧ s.tm 4 = .mp (48, 0) ∧ s.ob (48, 0) = some (.map 0 (vmap Value.bool (setW n.ways 0))) ∧ ∀ i : Nat, i < n.nodes.length → NdI n i) → K s) (m : Nat) (s : St) (hs : (fun (m : Nat) (s : St) => ∃ k : Nat, s.tm 1 = .ptr (1, 0) 0 0 ∧ s.ob (1, 0) = objN n ∧ s.tm 3 = .mp (47, 0) ∧ s.ob (47, 0) = some (.map 0 (vmap Value.bool (setN n.nodes k))) ∧ s.tm 4 = .mp (48, 0) ∧ s.ob (48, 0) = some (.map 0 (vmap Value.bool (setW n.ways 0))) ∧ s.tm 50 = .t (ints n.nodes) ∧ s.tm 51 = .t (.v (.int .i64 n.nodes.length)) ∧ s.tm 52 = .t (.v (.int .i64 k)) ∧ k ≤ n.nodes.length ∧ m = n.nodes.length - k ∧ ∀ i : Nat, i < k → NdI n i) m s) (K' : St → Prop) (hN : ∀ (m' : Nat) (s' : St), m' < m → (fun (m : Nat) (s : St) => ∃ k : Nat, s.tm 1 = .ptr (1, 0) 0 0 ∧ s.ob (1, 0) = objN n ∧ s.tm 3 = .mp (47, 0) ∧ s.ob (47, 0) = some (.map 0 (vmap Value.bool (setN n.nodes k))) ∧ s.tm 4 = .mp (48, 0) ∧ s.ob (48, 0) = some (.map 0 (vmap Value.bool (setW n.ways 0))) ∧ s.tm 50 = .t (ints n.nodes) ∧ s.tm 51 = .t (.v (.int .i64 n.nodes.length)) ∧ s.tm 52 = .t (.v (.int .i64 k)) ∧ k ≤ n.nodes.length ∧ m = n.nodes.length - k ∧ ∀ i : Nat, i < k → NdI n i) m' s' → K' s') : wp2 Tryd.prog k16_l0 (thenQ K' (inBlk 0 (thenQ K (Fin (Back Tryd.prog [ResultVar.tmp 2] [.agg (encN n)] (.t (.v (.bool (decide (VNet n))))) []))))) s := by
  obtain ⟨h1, h2, h3, h4, h5, h6, h7⟩ := h
  have sn := setN_all n.nodes
  have sw := setW_all n.ways
  obtain ⟨k, s1, o1, s3, o3, s4, o4, s50, s51, s52, hk, rfl, hq⟩ := hs
  simp only [objN] at o1
  have q64 : k < n.nodes.length → -9223372036854775808 ≤ rd n.nodes k ∧ rd n.nodes k < 9223372036854775808 := h64.nd k
  unfold k16_l0
  repeat' (first
   | refine wp2_seq fun K hK => ?_
   | refine M_cons fun K hK => ?_
   | (refine hK _ ?_; clear hK K)
   | (refine hX _ ?_; clear hX hY X Y)
   | (refine hY _ ?_; clear hX hY X Y)
   | refine wp2_block ?_
   | refine wp2_region ?_
   | refine wp2_cond fun X Y hX hY => ?_
   | (refine condK_of (fun c => ?_) (fun c => ?_) <;> (try simp [-List.length_eq_zero_iff] at c))
   | (refine guard1_or (fun c => ?_) (fun c => ?_) <;> (have cc := c) <;> (try simp [-List.length_eq_zero_iff] at cc) <;> (try simp (disch := omega) [s1, o1, s3, o3, s4, o4, s50, s51, s52, c]))
   | (refine callT_fl (inRange_c _) (by simp [St.args, St.arg, s1, o1, s3, o3, s4, o4, s50, s51, s52] <;> first | rfl | ((repeat' first | rfl | apply And.intro); first | done | fail)) ?_)
   | simp (maxSteps := 4000000) (disch := omega) [s1, o1, s3, o3, s4, o4, s50, s51, s52])
  all_goals first
    | (refine hN (n.nodes.length - (k + 1)) _ (by omega) ⟨k + 1, ?_⟩
       simp [s1, o1, s3, o3, s4, o4, s50, s51, objN, setN]
       refine ⟨by omega, below_succ hq ?_⟩
       exact ⟨by assumption, by omega⟩)
    | (have hkl : k = n.nodes.length := by omega
       subst hkl
       refine hE _ ?_
       simp [s1, o1, s3, o3, s4, o4, objN]
       exact hq)
    | omega
    | (have hv : ¬ VNet n := fun h => by
         have e := h.ni k (by assumption)
         obtain ⟨e1, e2⟩ := e
         clear h
         first | omega | contradiction
       simp [Back, hv]; done)
    | skip
set_option maxHeartbeats 4000000 in
theorem vnI_l6 (n : Net) (h : LN n) (h64 : N64 n) {K : St → Prop} (hE : ∀ s : St, (∀ i : Nat, i < n.tcs.length → TcI n i) → K s) (m : Nat) (s : St) (hs : (fun (m : Nat) (s : St) => ∃ k : Nat, s.tm 1 = .ptr (1, 0) 0 0 ∧ s.ob (1, 0) = objN n ∧ s.tm 4 = .mp (48, 0) ∧ s.ob (48, 0) = some (.map 0 (vmap Value.bool (setW n.ways n.ways.length))) ∧ s.tm 249 = .t (recs encC n.tcs) ∧ s.tm 250 = .t (.v (.int .i64 n.tcs.length)) ∧ s.tm 251 = .t (.v (.int .i64 k)) ∧ k ≤ n.tcs.length ∧ m = n.tcs.length - k ∧ ∀ i : Nat, i < k → TcI n i) m s) (K' : St → Prop) (hN : ∀ (m' : Nat) (s' : St), m' < m → (fun (m : Nat) (s : St) => ∃ k : Nat, s.tm 1 = .ptr (1, 0) 0 0 ∧ s.ob (1, 0) = objN n ∧ s.tm 4 = .mp (48, 0) ∧ s.ob (48, 0) = some (.map 0 (vmap Value.bool (setW n.ways n.ways.length))) ∧ s.tm 249 = .t (recs encC n.tcs) ∧ s.tm 250 = .t (.v (.int .i64 n.tcs.length)) ∧ s.tm 251 = .t (.v (.int .i64 k)) ∧ k ≤ n.tcs.length ∧ m = n.tcs.length - k ∧ ∀ i : Nat, i < k → TcI n i) m' s' → K' s') : wp2 Tryd.prog k16_l6 (thenQ K' (inBlk 12 (thenQ K (Fin (Back Tryd.prog [ResultVar.tmp 2] [.agg (encN n)] (.t (.v (.bool (decide (VNet n))))) []))))) s := by
  obtain ⟨h1, h2, h3, h4, h5, h6, h7⟩ := h
  have sn := setN_all n.nodes
  have sw := setW_all n.ways
  obtain ⟨k, s1, o1, s4, o4, s249, s250, s251, hk, rfl, hq⟩ := hs
  simp only [objN] at o1
  have key : TcI n k ↔ inR (nth n.tcs k).cost ∧ isWay n.ways (nth n.tcs k).fr ∧ isWay n.ways (nth n.tcs k).to ∧ (0 < k → (nth n.tcs ((k : Int) - 1)).fr < (nth n.tcs k).fr ∨ ((nth n.tcs ((k : Int) - 1)).fr = (nth n.tcs k).fr ∧ (nth n.tcs ((k : Int) - 1)).to < (nth n.tcs k).to)) := by
    unfold TcI TCOK
    exact ⟨fun ⟨⟨a, b, c⟩, d⟩ => ⟨a, b, c, d⟩, fun ⟨a, b, c, d⟩ => ⟨⟨a, b, c⟩, d⟩⟩
  have q64 : k < n.tcs.length → (-9223372036854775808 ≤ (nth n.tcs k).fr ∧ (nth n.tcs k).fr < 9223372036854775808) ∧ (-9223372036854775808 ≤ (nth n.tcs k).to ∧ (nth n.tcs k).to < 9223372036854775808) := h64.tf k
  unfold k16_l6
  repeat' (first
   | refine wp2_seq fun K hK => ?_
   | refine M_cons fun K hK => ?_
   | (refine hK _ ?_; clear hK K)
   | (refine hX _ ?_; clear hX hY X Y)
   | (refine hY _ ?_; clear hX hY X Y)
   | refine wp2_block ?_
   | refine wp2_region ?_
   | refine wp2_cond fun X Y hX hY => ?_
   | (refine condK_of (fun c => ?_) (fun c => ?_) <;> (try simp [-List.length_eq_zero_iff] at c))
   | (refine guard1_or (fun c => ?_) (fun c => ?_) <;> (have cc := c) <;> (try simp [-List.length_eq_zero_iff] at cc) <;> (try simp (disch := omega) [s1, o1, s4, o4, s249, s250, s251, encC, sw, c]))
   | (refine callT_fl (inRange_c _) (by simp [St.args, St.arg, s1, o1, s4, o4, s249, s250, s251, encC, sw] <;> first | rfl | ((repeat' first | rfl | apply And.intro); first | done | fail)) ?_)
   | simp (maxSteps := 4000000) (disch := omega) [s1, o1, s4, o4, s249, s250, s251, encC, sw])
  all_goals first
    | (refine hN (n.tcs.length - (k + 1)) _ (by omega) ⟨k + 1, ?_⟩
       simp [s1, o1, s4, o4, s249, s250, objN]
       refine ⟨by omega, below_succ hq ?_⟩
       rw [key]
       exact ⟨by assumption, by assumption, by assumption, by omega⟩)
    | exact hE _ (fun i hi => hq i (by omega))
    | omega
    | (have hv : ¬ VNet n := fun h => by
         have e := h.ti k (by assumption)
         rw [key] at e
         obtain ⟨e1, e2, e3, e4⟩ := e
         clear h
         first | omega | contradiction
       simp [Back, hv]; done)
    | skip
end Cal

set_option linter.unusedSimpArgs false
set_option linter.unusedVariables false
namespace Cal
open Go Go.Proofs
set_option maxRecDepth 100000
set_option maxHeartbeats 4000000 in
theorem vnI_l5 (n : Net) (k : Nat) (via : List Int) (hv : via.length ≤ 1048576) (h64 : ∀ j : Nat, j < via.length → i64 (rd via j)) {Q : Ex → St → Prop} (hE : ∀ s : St, (s.tm 1 = .ptr (1, 0) 0 0 ∧ s.ob (1, 0) = objN n ∧ s.tm 3 = .mp (47, 0) ∧ s.ob (47, 0) = some (.map 0 (vmap Value.bool (setN n.nodes n.nodes.length))) ∧ s.tm 4 = .mp (48, 0) ∧ s.ob (48, 0) = some (.map 0 (vmap Value.bool (setW n.ways n.ways.length))) ∧ s.tm 159 = .t (recs encR n.rels) ∧ s.tm 160 = .t (.v (.int .i64 n.rels.length)) ∧ s.tm 161 = .t (.v (.int .i64 k)) ∧ ∀ i : Nat, i < via.length → isWay n.ways (rd via i)) → Q .normal s) (hR : ∀ s : St, s.tm 2 = .t (.v (.bool false)) → (¬ ∀ i : Nat, i < via.length → isWay n.ways (rd via i)) → Q .ret s) (m : Nat) (s : St) (hs : (fun (m : Nat) (s : St) => ∃ j : Nat, s.tm 1 = .ptr (1, 0) 0 0 ∧ s.ob (1, 0) = objN n ∧ s.tm 3 = .mp (47, 0) ∧ s.ob (47, 0) = some (.map 0 (vmap Value.bool (setN n.nodes n.nodes.length))) ∧ s.tm 4 = .mp (48, 0) ∧ s.ob (48, 0) = some (.map 0 (vmap Value.bool (setW n.ways n.ways.length))) ∧ s.tm 159 = .t (recs encR n.rels) ∧ s.tm 160 = .t (.v (.int .i64 n.rels.length)) ∧ s.tm 161 = .t (.v (.int .i64 k)) ∧ s.tm 236 = .t (ints via) ∧ s.tm 237 = .t (.v (.int .i64 via.length)) ∧ s.tm 238 = .t (.v (.int .i64 j)) ∧ j ≤ via.length ∧ m = via.length - j ∧ ∀ i : Nat, i < j → isWay n.ways (rd via i)) m s) (K' : St → Prop) (hN : ∀ (m' : Nat) (s' : St), m' < m → (fun (m : Nat) (s : St) => ∃ j : Nat, s.tm 1 = .ptr (1, 0) 0 0 ∧ s.ob (1, 0) = objN n ∧ s.tm 3 = .mp (47, 0) ∧ s.ob (47, 0) = some (.map 0 (vmap Value.bool (setN n.nodes n.nodes.length))) ∧ s.tm 4 = .mp (48, 0) ∧ s.ob (48, 0) = some (.map 0 (vmap Value.bool (setW n.ways n.ways.length))) ∧ s.tm 159 = .t (recs encR n.rels) ∧ s.tm 160 = .t (.v (.int .i64 n.rels.length)) ∧ s.tm 161 = .t (.v (.int .i64 k)) ∧ s.tm 236 = .t (ints via) ∧ s.tm 237 = .t (.v (.int .i64 via.length)) ∧ s.tm 238 = .t (.v (.int .i64 j)) ∧ j ≤ via.length ∧ m = via.length - j ∧ ∀ i : Nat, i < j → isWay n.ways (rd via i)) m' s' → K' s') : wp2 Tryd.prog k16_l5 (thenQ K' (inBlk 10 Q)) s := by
  have sw := setW_all n.ways
  obtain ⟨j, s1, o1, s3, o3, s4, o4, s159, s160, s161, s236, s237, s238, hj, rfl, hq⟩ := hs
  simp only [objN] at o1
  have q64 : j < via.length → -9223372036854775808 ≤ rd via j ∧ rd via j < 9223372036854775808 := h64 j
  unfold k16_l5
  repeat' (first
   | refine wp2_seq fun K hK => ?_
   | refine M_cons fun K hK => ?_
   | (refine hK _ ?_; clear hK K)
   | (refine hX _ ?_; clear hX hY X Y)
   | (refine hY _ ?_; clear hX hY X Y)
   | refine wp2_block ?_
   | refine wp2_region ?_
   | refine wp2_cond fun X Y hX hY => ?_
   | (refine condK_of (fun c => ?_) (fun c => ?_) <;> (try simp [-List.length_eq_zero_iff] at c))
   | simp (maxSteps := 4000000) (disch := omega) [s1, o1, s3, o3, s4, o4, s159, s160, s161, s236, s237, s238, sw])
  all_goals first
    | (refine hN (via.length - (j + 1)) _ (by omega) ⟨j + 1, ?_⟩
       simp [s1, o1, s3, o3, s4, o4, s159, s160, s161, s236, s237, objN]
       exact ⟨by omega, below_succ (p := fun i : Nat => isWay n.ways (rd via i)) hq (by assumption)⟩)
    | (refine hE _ ?_
       simp [s1, o1, s3, o3, s4, o4, s159, s160, s161, objN]
       exact fun i hi => hq i (by omega))
    | omega
    | (refine hR _ (by simp) (fun h => ?_)
       have := h j (by omega)
       contradiction)
    | skip

set_option maxHeartbeats 8000000 in
theorem vnI_l4 (n : Net) (h : LN n) (h64 : N64 n) {K : St → Prop} (hE : ∀ s : St, (s.tm 1 = .ptr (1, 0) 0 0 ∧ s.ob (1, 0) = objN n ∧ s.tm 3 = .mp (47, 0) ∧ s.ob (47, 0) = some (.map 0 (vmap Value.bool (setN n.nodes n.nodes.length))) ∧ s.tm 4 = .mp (48, 0) ∧ s.ob (48, 0) = some (.map 0 (vmap Value.bool (setW n.ways n.ways.length))) ∧ ∀ i : Nat, i < n.rels.length → RlI n i) → K s) (m : Nat) (s : St) (hs : (fun (m : Nat) (s : St) => ∃ k : Nat, s.tm 1 = .ptr (1, 0) 0 0 ∧ s.ob (1, 0) = objN n ∧ s.tm 3 = .mp (47, 0) ∧ s.ob (47, 0) = some (.map 0 (vmap Value.bool (setN n.nodes n.nodes.length))) ∧ s.tm 4 = .mp (48, 0) ∧ s.ob (48, 0) = some (.map 0 (vmap Value.bool (setW n.ways n.ways.length))) ∧ s.tm 159 = .t (recs encR n.rels) ∧ s.tm 160 = .t (.v (.int .i64 n.rels.length)) ∧ s.tm 161 = .t (.v (.int .i64 k)) ∧ k ≤ n.rels.length ∧ m = n.rels.length - k ∧ ∀ i : Nat, i < k → RlI n i) m s) (K' : St → Prop) (hN : ∀ (m' : Nat) (s' : St), m' < m → (fun (m : Nat) (s : St) => ∃ k : Nat, s.tm 1 = .ptr (1, 0) 0 0 ∧ s.ob (1, 0) = objN n ∧ s.tm 3 = .mp (47, 0) ∧ s.ob (47, 0) = some (.map 0 (vmap Value.bool (setN n.nodes n.nodes.length))) ∧ s.tm 4 = .mp (48, 0) ∧ s.ob (48, 0) = some (.map 0 (vmap Value.bool (setW n.ways n.ways.length))) ∧ s.tm 159 = .t (recs encR n.rels) ∧ s.tm 160 = .t (.v (.int .i64 n.rels.length)) ∧ s.tm 161 = .t (.v (.int .i64 k)) ∧ k ≤ n.rels.length ∧ m = n.rels.length - k ∧ ∀ i : Nat, i < k → RlI n i) m' s' → K' s') : wp2 Tryd.prog k16_l4 (thenQ K' (inBlk 8 (thenQ K (Fin (Back Tryd.prog [ResultVar.tmp 2] [.agg (encN n)] (.t (.v (.bool (decide (VNet n))))) []))))) s := by
  obtain ⟨h1, h2, h3, h4, h5, h6, h7⟩ := h
  have sn := setN_all n.nodes
  have sw := setW_all n.ways
  obtain ⟨k, s1, o1, s3, o3, s4, o4, s159, s160, s161, hk, rfl, hq⟩ := hs
  simp only [objN] at o1
  by_cases hlt : k < n.rels.length
  · have q64 : (-9223372036854775808 ≤ (nth n.rels k).fr ∧ (nth n.rels k).fr < 9223372036854775808) ∧ (-9223372036854775808 ≤ (nth n.rels k).to ∧ (nth n.rels k).to < 9223372036854775808) ∧ (-9223372036854775808 ≤ (nth n.rels k).node ∧ (nth n.rels k).node < 9223372036854775808) := h64.rf k hlt
    have v64 := h64.rv k hlt
    have b7 := h7 k hlt
    have key : RlI n k ↔ inR (nth n.rels k).id ∧ isWay n.ways (nth n.rels k).fr ∧ isWay n.ways (nth n.rels k).to ∧ ((nth n.rels k).atNode = true → (nth n.rels k).via.length = 0 ∧ (nth n.rels k).node ∈ n.nodes) ∧ ((nth n.rels k).atNode = false → (nth n.rels k).node = 0 ∧ 1 ≤ (nth n.rels k).via.length ∧ (nth n.rels k).via.length ≤ 4 ∧ ∀ i : Nat, i < (nth n.rels k).via.length → isWay n.ways (rd (nth n.rels k).via i)) ∧ (0 < k → (nth n.rels ((k : Int) - 1)).id < (nth n.rels k).id) := by
      unfold RlI
      exact ⟨fun ⟨h, z⟩ => ⟨h.id, h.fr, h.to, h.at1, h.at0, z⟩, fun ⟨a, b, c, d, e, z⟩ => ⟨⟨a, b, c, d, e⟩, z⟩⟩
    have no : ¬ RlI n k → ¬ VNet n := fun h hv => h (hv.ri k hlt)
    cases ht : (nth n.rels k).atNode with
    | true =>
      rw [ht] at key
      simp only [forall_const, Bool.true_eq_false, true_implies, false_implies, true_and, reduceCtorEq] at key
      unfold k16_l4
      repeat' (first
       | refine wp2_seq fun K hK => ?_
       | refine M_cons fun K hK => ?_
       | (refine hK _ ?_; clear hK K)
       | (refine hX _ ?_; clear hX hY X Y)
       | (refine hY _ ?_; clear hX hY X Y)
       | refine wp2_block ?_
       | refine wp2_region ?_
       | refine wp2_cond fun X Y hX hY => ?_
       | (refine condK_of (fun c => ?_) (fun c => ?_) <;> (try simp [-List.length_eq_zero_iff] at c))
       | (refine guard1_or (fun c => ?_) (fun c => ?_) <;> (have cc := c) <;> (try simp [-List.length_eq_zero_iff] at cc) <;> (try simp (disch := omega) [s1, o1, s3, o3, s4, o4, s159, s160, s161, encR, sw, sn, ht, c]))
       | (refine callT_fl (inRange_c _) (by simp [St.args, St.arg, s1, o1, s3, o3, s4, o4, s159, s160, s161, encR, sw, sn, ht] <;> first | rfl | ((repeat' first | rfl | apply And.intro); first | done | fail)) ?_)
       | simp (maxSteps := 4000000) (disch := omega) [s1, o1, s3, o3, s4, o4, s159, s160, s161, encR, sw, sn, ht])
      all_goals try (have hv : ¬ VNet n := no (fun h => by
        rw [key] at h
        obtain ⟨e1, e2, e3, ⟨e4, e5⟩, e6⟩ := h
        first | omega | contradiction); simp [Back, hv]; done)
      all_goals first | omega | skip
      all_goals
        refine wp2_loop _ (nth n.rels k).via.length ?_ (fun m s hs K2 hK2 => vnI_l5 n k (nth n.rels k).via b7 v64 ?_ ?_ m s hs K2 hK2)
        · refine ⟨0, ?_⟩
          simp [s1, o1, s3, o3, s4, o4, s159, s160, s161, objN]
        · rintro s ⟨s1, o1, s3, o3, s4, o4, s159, s160, s161, hall⟩
          simp only [objN] at o1
          repeat' (first
           | refine M_cons fun K hK => ?_
           | (refine hK _ ?_; clear hK K)
           | refine wp2_region ?_
           | simp (maxSteps := 4000000) (disch := omega) [s1, o1, s3, o3, s4, o4, s159, s160, s161])
          all_goals first
            | omega
            | (refine hN (n.rels.length - (k + 1)) _ (by omega) ⟨k + 1, ?_⟩
               simp [s1, o1, s3, o3, s4, o4, s159, s160, objN]
               refine ⟨by omega, below_succ hq ?_⟩
               rw [key]
               exact ⟨by assumption, by assumption, by assumption, ⟨by omega, by assumption⟩, by omega⟩)
            | skip
        · intro s s2 hnot
          have hv : ¬ VNet n := no (fun h => by
            rw [key] at h
            obtain ⟨e1, e2, e3, ⟨e4, e5⟩, e6⟩ := h
            exact hnot (fun i hi => absurd hi (by omega)))
          simp [Back, hv, s2]
    | false =>
      rw [ht] at key
      simp only [forall_const, Bool.false_eq_true, true_implies, false_implies, true_and, reduceCtorEq] at key
      unfold k16_l4
      repeat' (first
       | refine wp2_seq fun K hK => ?_
       | refine M_cons fun K hK => ?_
       | (refine hK _ ?_; clear hK K)
       | (refine hX _ ?_; clear hX hY X Y)
       | (refine hY _ ?_; clear hX hY X Y)
       | refine wp2_block ?_
       | refine wp2_region ?_
       | refine wp2_cond fun X Y hX hY => ?_
       | (refine condK_of (fun c => ?_) (fun c => ?_) <;> (try simp [-List.length_eq_zero_iff] at c))
       | (refine guard1_or (fun c => ?_) (fun c => ?_) <;> (have cc := c) <;> (try simp [-List.length_eq_zero_iff] at cc) <;> (try simp (disch := omega) [s1, o1, s3, o3, s4, o4, s159, s160, s161, encR, sw, sn, ht, c]))
       | (refine callT_fl (inRange_c _) (by simp [St.args, St.arg, s1, o1, s3, o3, s4, o4, s159, s160, s161, encR, sw, sn, ht] <;> first | rfl | ((repeat' first | rfl | apply And.intro); first | done | fail)) ?_)
       | simp (maxSteps := 4000000) (disch := omega) [s1, o1, s3, o3, s4, o4, s159, s160, s161, encR, sw, sn, ht])
      all_goals try (have hv : ¬ VNet n := no (fun h => by
        rw [key] at h
        obtain ⟨e1, e2, e3, ⟨e4, e5, e7, e8⟩, e6⟩ := h
        first | omega | contradiction); simp [Back, hv]; done)
      all_goals first | omega | skip
      all_goals
        refine wp2_loop _ (nth n.rels k).via.length ?_ (fun m s hs K2 hK2 => vnI_l5 n k (nth n.rels k).via b7 v64 ?_ ?_ m s hs K2 hK2)
        · refine ⟨0, ?_⟩
          simp [s1, o1, s3, o3, s4, o4, s159, s160, s161, objN]
        · rintro s ⟨s1, o1, s3, o3, s4, o4, s159, s160, s161, hall⟩
          simp only [objN] at o1
          repeat' (first
           | refine M_cons fun K hK => ?_
           | (refine hK _ ?_; clear hK K)
           | refine wp2_region ?_
           | simp (maxSteps := 4000000) (disch := omega) [s1, o1, s3, o3, s4, o4, s159, s160, s161])
          all_goals first
            | omega
            | (refine hN (n.rels.length - (k + 1)) _ (by omega) ⟨k + 1, ?_⟩
               simp [s1, o1, s3, o3, s4, o4, s159, s160, objN]
               refine ⟨by omega, below_succ hq ?_⟩
               rw [key]
               exact ⟨by assumption, by assumption, by assumption, ⟨by omega, by omega, by omega, hall⟩, by omega⟩)
            | skip
        · intro s s2 hnot
          have hv : ¬ VNet n := no (fun h => by
            rw [key] at h
            obtain ⟨e1, e2, e3, ⟨e4, e5, e7, e8⟩, e6⟩ := h
            exact hnot e8)
          simp [Back, hv, s2]
  · unfold k16_l4
    repeat' (first
     | refine wp2_seq fun K hK => ?_
     | refine M_cons fun K hK => ?_
     | (refine hK _ ?_; clear hK K)
     | (refine hX _ ?_; clear hX hY X Y)
     | (refine hY _ ?_; clear hX hY X Y)
     | refine wp2_block ?_
     | refine wp2_region ?_
     | refine wp2_cond fun X Y hX hY => ?_
     | (refine condK_of (fun c => ?_) (fun c => ?_) <;> (try simp [-List.length_eq_zero_iff] at c))
     | simp (maxSteps := 4000000) (disch := omega) [s1, o1, s3, o3, s4, o4, s159, s160, s161])
    all_goals first
      | omega
      | (refine hE _ ?_
         simp [s1, o1, s3, o3, s4, o4, objN]
         exact fun i hi => hq i (by omega))
end Cal

set_option linter.unusedSimpArgs false
set_option linter.unusedVariables false
namespace Cal
open Go Go.Proofs
set_option maxRecDepth 100000
set_option maxHeartbeats 4000000 in
theorem vnI_l2 (n : Net) (k : Nat) (w : Way) (hv : w.lens.length ≤ 1048576)  {Q : Ex → St → Prop} (hE : ∀ s : St, (s.tm 1 = .ptr (1, 0) 0 0 ∧ s.ob (1, 0) = objN n ∧ s.tm 3 = .mp (47, 0) ∧ s.ob (47, 0) = some (.map 0 (vmap Value.bool (setN n.nodes n.nodes.length))) ∧ s.tm 4 = .mp (48, 0) ∧ s.ob (48, 0) = some (.map 0 (vmap Value.bool (setW n.ways k))) ∧ s.tm 78 = .t (recs encW n.ways) ∧ s.tm 79 = .t (.v (.int .i64 n.ways.length)) ∧ s.tm 80 = .t (.v (.int .i64 k)) ∧ s.tm 8 = .ptr (8, 0) 0 0 ∧ s.ob (8, 0) = objW w ∧ ∀ i : Nat, i < w.lens.length → inR (rd w.lens i)) → Q .normal s) (hR : ∀ s : St, s.tm 2 = .t (.v (.bool false)) → (¬ ∀ i : Nat, i < w.lens.length → inR (rd w.lens i)) → Q .ret s) (m : Nat) (s : St) (hs : (fun (m : Nat) (s : St) => ∃ j : Nat, s.tm 1 = .ptr (1, 0) 0 0 ∧ s.ob (1, 0) = objN n ∧ s.tm 3 = .mp (47, 0) ∧ s.ob (47, 0) = some (.map 0 (vmap Value.bool (setN n.nodes n.nodes.length))) ∧ s.tm 4 = .mp (48, 0) ∧ s.ob (48, 0) = some (.map 0 (vmap Value.bool (setW n.ways k))) ∧ s.tm 78 = .t (recs encW n.ways) ∧ s.tm 79 = .t (.v (.int .i64 n.ways.length)) ∧ s.tm 80 = .t (.v (.int .i64 k)) ∧ s.tm 8 = .ptr (8, 0) 0 0 ∧ s.ob (8, 0) = objW w ∧ s.tm 128 = .t (ints w.lens) ∧ s.tm 129 = .t (.v (.int .i64 w.lens.length)) ∧ s.tm 130 = .t (.v (.int .i64 j)) ∧ j ≤ w.lens.length ∧ m = w.lens.length - j ∧ ∀ i : Nat, i < j → inR (rd w.lens i)) m s) (K' : St → Prop) (hN : ∀ (m' : Nat) (s' : St), m' < m → (fun (m : Nat) (s : St) => ∃ j : Nat, s.tm 1 = .ptr (1, 0) 0 0 ∧ s.ob (1, 0) = objN n ∧ s.tm 3 = .mp (47, 0) ∧ s.ob (47, 0) = some (.map 0 (vmap Value.bool (setN n.nodes n.nodes.length))) ∧ s.tm 4 = .mp (48, 0) ∧ s.ob (48, 0) = some (.map 0 (vmap Value.bool (setW n.ways k))) ∧ s.tm 78 = .t (recs encW n.ways) ∧ s.tm 79 = .t (.v (.int .i64 n.ways.length)) ∧ s.tm 80 = .t (.v (.int .i64 k)) ∧ s.tm 8 = .ptr (8, 0) 0 0 ∧ s.ob (8, 0) = objW w ∧ s.tm 128 = .t (ints w.lens) ∧ s.tm 129 = .t (.v (.int .i64 w.lens.length)) ∧ s.tm 130 = .t (.v (.int .i64 j)) ∧ j ≤ w.lens.length ∧ m = w.lens.length - j ∧ ∀ i : Nat, i < j → inR (rd w.lens i)) m' s' → K' s') : wp2 Tryd.prog k16_l2 (thenQ K' (inBlk 4 Q)) s := by
  have sn := setN_all n.nodes
  obtain ⟨j, s1, o1, s3, o3, s4, o4, s78, s79, s80, s8, o8, sa, sb, sc, hj, rfl, hq⟩ := hs
  simp only [objN] at o1
  simp only [objW] at o8
  skip
  unfold k16_l2
  repeat' (first
   | refine wp2_seq fun K hK => ?_
   | refine M_cons fun K hK => ?_
   | (refine hK _ ?_; clear hK K)
   | (refine hX _ ?_; clear hX hY X Y)
   | (refine hY _ ?_; clear hX hY X Y)
   | refine wp2_block ?_
   | refine wp2_region ?_
   | refine wp2_cond fun X Y hX hY => ?_
   | (refine condK_of (fun c => ?_) (fun c => ?_) <;> (try simp [-List.length_eq_zero_iff] at c))
   | (refine callT_fl (inRange_c _) (by simp [St.args, St.arg, s1, o1, s3, o3, s4, o4, s78, s79, s80, s8, o8, sa, sb, sc] <;> first | rfl | ((repeat' first | rfl | apply And.intro); first | done | fail)) ?_)
   | simp (maxSteps := 4000000) (disch := omega) [s1, o1, s3, o3, s4, o4, s78, s79, s80, s8, o8, sa, sb, sc])
  all_goals first
    | (refine hN (w.lens.length - (j + 1)) _ (by omega) ⟨j + 1, ?_⟩
       simp [s1, o1, s3, o3, s4, o4, s78, s79, s80, s8, o8, sa, sb, objN, objW]
       exact ⟨by omega, below_succ (p := fun i : Nat => inR (rd w.lens i)) hq (by assumption)⟩)
    | (refine hE _ ?_
       simp [s1, o1, s3, o3, s4, o4, s78, s79, s80, s8, o8, objN, objW]
       exact fun i hi => hq i (by omega))
    | omega
    | (refine hR _ (by simp) (fun h => ?_)
       have := h j (by omega)
       contradiction)
    | skip
set_option maxHeartbeats 4000000 in
theorem vnI_l3 (n : Net) (k : Nat) (w : Way) (hv : w.nodes.length ≤ 1048576) (h64 : ∀ j : Nat, j < w.nodes.length → i64 (rd w.nodes j)) {Q : Ex → St → Prop} (hE : ∀ s : St, (s.tm 1 = .ptr (1, 0) 0 0 ∧ s.ob (1, 0) = objN n ∧ s.tm 3 = .mp (47, 0) ∧ s.ob (47, 0) = some (.map 0 (vmap Value.bool (setN n.nodes n.nodes.length))) ∧ s.tm 4 = .mp (48, 0) ∧ s.ob (48, 0) = some (.map 0 (vmap Value.bool (setW n.ways k))) ∧ s.tm 78 = .t (recs encW n.ways) ∧ s.tm 79 = .t (.v (.int .i64 n.ways.length)) ∧ s.tm 80 = .t (.v (.int .i64 k)) ∧ s.tm 8 = .ptr (8, 0) 0 0 ∧ s.ob (8, 0) = objW w ∧ ∀ i : Nat, i < w.nodes.length → rd w.nodes i ∈ n.nodes) → Q .normal s) (hR : ∀ s : St, s.tm 2 = .t (.v (.bool false)) → (¬ ∀ i : Nat, i < w.nodes.length → rd w.nodes i ∈ n.nodes) → Q .ret s) (m : Nat) (s : St) (hs : (fun (m : Nat) (s : St) => ∃ j : Nat, s.tm 1 = .ptr (1, 0) 0 0 ∧ s.ob (1, 0) = objN n ∧ s.tm 3 = .mp (47, 0) ∧ s.ob (47, 0) = some (.map 0 (vmap Value.bool (setN n.nodes n.nodes.length))) ∧ s.tm 4 = .mp (48, 0) ∧ s.ob (48, 0) = some (.map 0 (vmap Value.bool (setW n.ways k))) ∧ s.tm 78 = .t (recs encW n.ways) ∧ s.tm 79 = .t (.v (.int .i64 n.ways.length)) ∧ s.tm 80 = .t (.v (.int .i64 k)) ∧ s.tm 8 = .ptr (8, 0) 0 0 ∧ s.ob (8, 0) = objW w ∧ s.tm 139 = .t (ints w.nodes) ∧ s.tm 140 = .t (.v (.int .i64 w.nodes.length)) ∧ s.tm 141 = .t (.v (.int .i64 j)) ∧ j ≤ w.nodes.length ∧ m = w.nodes.length - j ∧ ∀ i : Nat, i < j → rd w.nodes i ∈ n.nodes) m s) (K' : St → Prop) (hN : ∀ (m' : Nat) (s' : St), m' < m → (fun (m : Nat) (s : St) => ∃ j : Nat, s.tm 1 = .ptr (1, 0) 0 0 ∧ s.ob (1, 0) = objN n ∧ s.tm 3 = .mp (47, 0) ∧ s.ob (47, 0) = some (.map 0 (vmap Value.bool (setN n.nodes n.nodes.length))) ∧ s.tm 4 = .mp (48, 0) ∧ s.ob (48, 0) = some (.map 0 (vmap Value.bool (setW n.ways k))) ∧ s.tm 78 = .t (recs encW n.ways) ∧ s.tm 79 = .t (.v (.int .i64 n.ways.length)) ∧ s.tm 80 = .t (.v (.int .i64 k)) ∧ s.tm 8 = .ptr (8, 0) 0 0 ∧ s.ob (8, 0) = objW w ∧ s.tm 139 = .t (ints w.nodes) ∧ s.tm 140 = .t (.v (.int .i64 w.nodes.length)) ∧ s.tm 141 = .t (.v (.int .i64 j)) ∧ j ≤ w.nodes.length ∧ m = w.nodes.length - j ∧ ∀ i : Nat, i < j → rd w.nodes i ∈ n.nodes) m' s' → K' s') : wp2 Tryd.prog k16_l3 (thenQ K' (inBlk 6 Q)) s := by
  have sn := setN_all n.nodes
  obtain ⟨j, s1, o1, s3, o3, s4, o4, s78, s79, s80, s8, o8, sa, sb, sc, hj, rfl, hq⟩ := hs
  simp only [objN] at o1
  simp only [objW] at o8
  have q64 : j < w.nodes.length → -9223372036854775808 ≤ rd w.nodes j ∧ rd w.nodes j < 9223372036854775808 := h64 j
  unfold k16_l3
  repeat' (first
   | refine wp2_seq fun K hK => ?_
   | refine M_cons fun K hK => ?_
   | (refine hK _ ?_; clear hK K)
   | (refine hX _ ?_; clear hX hY X Y)
   | (refine hY _ ?_; clear hX hY X Y)
   | refine wp2_block ?_
   | refine wp2_region ?_
   | refine wp2_cond fun X Y hX hY => ?_
   | (refine condK_of (fun c => ?_) (fun c => ?_) <;> (try simp [-List.length_eq_zero_iff] at c))
   | simp (maxSteps := 4000000) (disch := omega) [s1, o1, s3, o3, s4, o4, s78, s79, s80, s8, o8, sa, sb, sc, sn])
  all_goals first
    | (refine hN (w.nodes.length - (j + 1)) _ (by omega) ⟨j + 1, ?_⟩
       simp [s1, o1, s3, o3, s4, o4, s78, s79, s80, s8, o8, sa, sb, objN, objW]
       exact ⟨by omega, below_succ (p := fun i : Nat => rd w.nodes i ∈ n.nodes) hq (by assumption)⟩)
    | (refine hE _ ?_
       simp [s1, o1, s3, o3, s4, o4, s78, s79, s80, s8, o8, objN, objW]
       exact fun i hi => hq i (by omega))
    | omega
    | (refine hR _ (by simp) (fun h => ?_)
       have := h j (by omega)
       contradiction)
    | skip
set_option maxHeartbeats 8000000 in
theorem vnI_l1 (n : Net) (h : LN n) (h64 : N64 n) {K : St → Prop} (hE : ∀ s : St, (s.tm 1 = .ptr (1, 0) 0 0 ∧ s.ob (1, 0) = objN n ∧ s.tm 3 = .mp (47, 0) ∧ s.ob (47, 0) = some (.map 0 (vmap Value.bool (setN n.nodes n.nodes.length))) ∧ s.tm 4 = .mp (48, 0) ∧ s.ob (48, 0) = some (.map 0 (vmap Value.bool (setW n.ways n.ways.length))) ∧ ∀ i : Nat, i < n.ways.length → WyI n i) → K s) (m : Nat) (s : St) (hs : (fun (m : Nat) (s : St) => ∃ k : Nat, s.tm 1 = .ptr (1, 0) 0 0 ∧ s.ob (1, 0) = objN n ∧ s.tm 3 = .mp (47, 0) ∧ s.ob (47, 0) = some (.map 0 (vmap Value.bool (setN n.nodes n.nodes.length))) ∧ s.tm 4 = .mp (48, 0) ∧ s.ob (48, 0) = some (.map 0 (vmap Value.bool (setW n.ways k))) ∧ s.tm 78 = .t (recs encW n.ways) ∧ s.tm 79 = .t (.v (.int .i64 n.ways.length)) ∧ s.tm 80 = .t (.v (.int .i64 k)) ∧ k ≤ n.ways.length ∧ m = n.ways.length - k ∧ ∀ i : Nat, i < k → WyI n i) m s) (K' : St → Prop) (hN : ∀ (m' : Nat) (s' : St), m' < m → (fun (m : Nat) (s : St) => ∃ k : Nat, s.tm 1 = .ptr (1, 0) 0 0 ∧ s.ob (1, 0) = objN n ∧ s.tm 3 = .mp (47, 0) ∧ s.ob (47, 0) = some (.map 0 (vmap Value.bool (setN n.nodes n.nodes.length))) ∧ s.tm 4 = .mp (48, 0) ∧ s.ob (48, 0) = some (.map 0 (vmap Value.bool (setW n.ways k))) ∧ s.tm 78 = .t (recs encW n.ways) ∧ s.tm 79 = .t (.v (.int .i64 n.ways.length)) ∧ s.tm 80 = .t (.v (.int .i64 k)) ∧ k ≤ n.ways.length ∧ m = n.ways.length - k ∧ ∀ i : Nat, i < k → WyI n i) m' s' → K' s') : wp2 Tryd.prog k16_l1 (thenQ K' (inBlk 2 (thenQ K (Fin (Back Tryd.prog [ResultVar.tmp 2] [.agg (encN n)] (.t (.v (.bool (decide (VNet n))))) []))))) s := by
  obtain ⟨h1, h2, h3, h4, h5, h6, h7⟩ := h
  obtain ⟨k, s1, o1, s3, o3, s4, o4, s78, s79, s80, hk, rfl, hq⟩ := hs
  simp only [objN] at o1
  by_cases hlt : k < n.ways.length
  · have b5 := h5 k hlt
    have b6 := h6 k hlt
    have v64 := h64.wn k hlt
    have q64 : -9223372036854775808 ≤ (nth n.ways k).id ∧ (nth n.ways k).id < 9223372036854775808 := h64.wi k hlt
    have key : WyI n k ↔ inR (nth n.ways k).id ∧ 1 ≤ (nth n.ways k).lens.length ∧ (nth n.ways k).lens.length ≤ 100 ∧ (nth n.ways k).nodes.length = (nth n.ways k).lens.length + 1 ∧ (∀ i : Nat, i < (nth n.ways k).lens.length → inR (rd (nth n.ways k).lens i)) ∧ (∀ i : Nat, i < (nth n.ways k).nodes.length → rd (nth n.ways k).nodes i ∈ n.nodes) ∧ (0 < k → (nth n.ways ((k : Int) - 1)).id < (nth n.ways k).id) := by
      unfold WyI
      exact ⟨fun ⟨h, z⟩ => ⟨h.id, h.l1, h.l2, h.ln, h.ls, h.ns, z⟩, fun ⟨a, b, c, d, e, f, z⟩ => ⟨⟨a, b, c, d, e, f⟩, z⟩⟩
    have no : ¬ WyI n k → ¬ VNet n := fun h hv => h (hv.wi k hlt)
    unfold k16_l1
    repeat' (first
     | refine wp2_seq fun K hK => ?_
     | refine M_cons fun K hK => ?_
     | (refine hK _ ?_; clear hK K)
     | (refine hX _ ?_; clear hX hY X Y)
     | (refine hY _ ?_; clear hX hY X Y)
     | refine wp2_block ?_
     | refine wp2_region ?_
     | refine wp2_cond fun X Y hX hY => ?_
     | (refine condK_of (fun c => ?_) (fun c => ?_) <;> (try simp [-List.length_eq_zero_iff] at c))
     | (refine guard1_or (fun c => ?_) (fun c => ?_) <;> (have cc := c) <;> (try simp [-List.length_eq_zero_iff] at cc) <;> (try simp (disch := omega) [s1, o1, s3, o3, s4, o4, s78, s79, s80, encW, c]))
     | (refine callT_fl (inRange_c _) (by simp [St.args, St.arg, s1, o1, s3, o3, s4, o4, s78, s79, s80, encW] <;> first | rfl | ((repeat' first | rfl | apply And.intro); first | done | fail)) ?_)
     | simp (maxSteps := 4000000) (disch := omega) [s1, o1, s3, o3, s4, o4, s78, s79, s80, encW])
    all_goals try (have hv : ¬ VNet n := no (fun h => by
      rw [key] at h
      obtain ⟨e1, e2, e3, e4, e5, e6, e7⟩ := h
      first | omega | contradiction); simp [Back, hv]; done)
    all_goals first | omega | skip
    all_goals
      refine wp2_loop _ (nth n.ways k).lens.length ?_ (fun m s hs K2 hK2 => vnI_l2 n k (nth n.ways k) b6 ?_ ?_ m s hs K2 hK2)
      · refine ⟨0, ?_⟩
        simp [s1, o1, s3, o3, s4, o4, s78, s79, s80, objN, objW]
      · rintro s ⟨s1, o1, s3, o3, s4, o4, s78, s79, s80, s8, o8, hall⟩
        simp only [objN] at o1
        simp only [objW] at o8
        repeat' (first
         | refine wp2_seq fun K hK => ?_
         | refine M_cons fun K hK => ?_
         | (refine hK _ ?_; clear hK K)
         | refine wp2_block ?_
         | refine wp2_region ?_
         | simp (maxSteps := 4000000) (disch := omega) [s1, o1, s3, o3, s4, o4, s78, s79, s80, s8, o8])
        all_goals
          refine wp2_loop _ (nth n.ways k).nodes.length ?_ (fun m s hs K2 hK2 => vnI_l3 n k (nth n.ways k) b5 v64 ?_ ?_ m s hs K2 hK2)
          · refine ⟨0, ?_⟩
            simp [s1, o1, s3, o3, s4, o4, s78, s79, s80, s8, o8, objN, objW]
          · rintro s ⟨s1, o1, s3, o3, s4, o4, s78, s79, s80, s8, o8, hall2⟩
            simp only [objN] at o1
            simp only [objW] at o8
            repeat' (first
             | refine M_cons fun K hK => ?_
             | (refine hK _ ?_; clear hK K)
             | refine wp2_region ?_
             | simp (maxSteps := 4000000) (disch := omega) [s1, o1, s3, o3, s4, o4, s78, s79, s80, s8, o8])
            all_goals first
              | omega
              | (refine hN (n.ways.length - (k + 1)) _ (by omega) ⟨k + 1, ?_⟩
                 simp [s1, o1, s3, o3, s4, o4, s78, s79, objN, setW]
                 refine ⟨by omega, below_succ hq ?_⟩
                 rw [key]
                 exact ⟨by assumption, by omega, by omega, by omega, hall, hall2, by omega⟩)
              | skip
          · intro s s2 hnot
            have hv : ¬ VNet n := no (fun h => by
              rw [key] at h
              exact hnot h.2.2.2.2.2.1)
            simp [Back, hv, s2]
      · intro s s2 hnot
        have hv : ¬ VNet n := no (fun h => by
          rw [key] at h
          exact hnot h.2.2.2.2.1)
        simp [Back, hv, s2]
  · unfold k16_l1
    repeat' (first
     | refine wp2_seq fun K hK => ?_
     | refine M_cons fun K hK => ?_
     | (refine hK _ ?_; clear hK K)
     | (refine hX _ ?_; clear hX hY X Y)
     | (refine hY _ ?_; clear hX hY X Y)
     | refine wp2_block ?_
     | refine wp2_region ?_
     | refine wp2_cond fun X Y hX hY => ?_
     | (refine condK_of (fun c => ?_) (fun c => ?_) <;> (try simp [-List.length_eq_zero_iff] at c))
     | simp (maxSteps := 4000000) (disch := omega) [s1, o1, s3, o3, s4, o4, s78, s79, s80])
    all_goals first
      | omega
      | (have hkl : k = n.ways.length := by omega
         subst hkl
         refine hE _ ?_
         simp [s1, o1, s3, o3, s4, o4, objN]
         exact fun i hi => hq i (by omega))
end Cal

set_option linter.unusedSimpArgs false
set_option linter.unusedVariables false
namespace Cal
open Go Go.Proofs
set_option maxRecDepth 100000
set_option maxHeartbeats 4000000 in
theorem vnI (n : Net) (h : LN n) (h64 : N64 n) : CallsF Tryd.prog 16 [.agg (encN n)] (.t (.v (.bool (decide (VNet n))))) [] := by
  have hL := h
  obtain ⟨h1, h2, h3, h4, h5, h6, h7⟩ := h
  refine callsF_of_wp2 (fn := Tryd.f16) (k := k16) (fun _ => []) mixed (by kernel_rfl) rfl (by kernel_rfl) (by kernel_rfl) (by kernel_rfl) rfl (by simp [Tryd.f16]) (by simp [Arg.like]) ?_
  generalize hst : St.enter [.agg (encN n)] = st0
  have t0 : st0.tm 0 = .agg ((encN n) |>.map .t) := by rw [← hst]; rfl
  clear hst
  unfold k16
  simp [encN] at t0
  repeat' (first
   | refine wp2_seq fun K hK => ?_
   | refine M_cons fun K hK => ?_
   | (refine hK _ ?_; clear hK K)
   | (refine hX _ ?_; clear hX hY X Y)
   | (refine hY _ ?_; clear hX hY X Y)
   | refine wp2_block ?_
   | refine wp2_region ?_
   | refine wp2_cond fun X Y hX hY => ?_
   | (refine condK_of (fun c => ?_) (fun c => ?_) <;> (try simp [-List.length_eq_zero_iff] at c))
   | (refine guard1_or (fun c => ?_) (fun c => ?_) <;> (have cc := c) <;> (try simp [-List.length_eq_zero_iff] at cc) <;> (try simp (disch := omega) [t0, c]))
   | (refine callT_fl (inRange_c _) (by simp [St.args, St.arg, t0] <;> first | rfl | ((repeat' first | rfl | apply And.intro); first | done | fail)) ?_)
   | simp (maxSteps := 4000000) (disch := omega) [t0])
  all_goals try (have hv : ¬ VNet n := (fun h => by
      have e1 := h.u; have e2 := h.c1; have e3 := h.c2; have e4 := h.c3; have e5 := h.c4
      first | omega | contradiction); simp [Back, hv]; done)
  have g0 : inR n.uturn := by assumption
  have g1 : n.nodes.length ≤ 2000 := by omega
  have g2 : n.ways.length ≤ 2000 := by omega
  have g3 : n.rels.length ≤ 1000 := by omega
  have g4 : n.tcs.length ≤ 2000 := by omega
  refine wp2_loop _ n.nodes.length ?_ (vnI_l0 n hL h64 ?_)
  · refine ⟨0, ?_⟩
    simp [t0, objN, setN, setW, vmap]
  · clear t0
    rintro s ⟨s1, o1, s3, o3, s4, o4, g5⟩
    simp only [objN] at o1
    repeat' (first
     | refine wp2_seq fun K hK => ?_
     | refine M_cons fun K hK => ?_
     | (refine hK _ ?_; clear hK K)
     | refine wp2_block ?_
     | refine wp2_region ?_
     | simp (maxSteps := 4000000) (disch := omega) [s1, o1, s3, o3, s4, o4])
    refine wp2_loop _ n.ways.length ?_ (vnI_l1 n hL h64 ?_)
    · refine ⟨0, ?_⟩
      simp [s1, o1, s3, o3, s4, o4, objN]
    · clear s1 o1 s3 o3 s4 o4
      rintro s ⟨s1, o1, s3, o3, s4, o4, g6⟩
      simp only [objN] at o1
      have hE := sumE_le h6 n.ways.length (Nat.le_refl _)
      repeat' (first
       | refine wp2_seq fun K hK => ?_
       | refine M_cons fun K hK => ?_
       | (refine hK _ ?_; clear hK K)
       | (refine hX _ ?_; clear hX hY X Y)
       | (refine hY _ ?_; clear hX hY X Y)
       | refine wp2_block ?_
       | refine wp2_region ?_
       | refine wp2_cond fun X Y hX hY => ?_
       | (refine condK_of (fun c => ?_) (fun c => ?_) <;> (try simp [-List.length_eq_zero_iff] at c))
       | (refine callT_fl (edgesOf_c n.ways h2 h6) (by simp [St.args, St.arg, s1, o1, s3, o3, s4, o4] <;> first | rfl | ((repeat' first | rfl | apply And.intro); first | done | fail)) ?_)
       | simp (maxSteps := 4000000) (disch := omega) [s1, o1, s3, o3, s4, o4])
      all_goals try (have hv : ¬ VNet n := (fun h => by have e1 := h.es; omega); simp [Back, hv]; done)
      have g7 : sumE n.ways n.ways.length ≤ 4000 := by omega
      refine wp2_loop _ n.rels.length ?_ (vnI_l4 n hL h64 ?_)
      · refine ⟨0, ?_⟩
        simp [s1, o1, s3, o3, s4, o4, objN]
      · clear s1 o1 s3 o3 s4 o4
        rintro s ⟨s1, o1, s3, o3, s4, o4, g8⟩
        simp only [objN] at o1
        repeat' (first
         | refine wp2_seq fun K hK => ?_
         | refine M_cons fun K hK => ?_
         | (refine hK _ ?_; clear hK K)
         | refine wp2_block ?_
         | refine wp2_region ?_
         | simp (maxSteps := 4000000) (disch := omega) [s1, o1, s3, o3, s4, o4])
        refine wp2_loop _ n.tcs.length ?_ (vnI_l6 n hL h64 ?_)
        · refine ⟨0, ?_⟩
          simp [s1, o1, s3, o3, s4, o4, objN]
        · intro s g9
          have hv : VNet n := ⟨g0, g1, g2, g3, g4, g5, g6, g7, g8, g9⟩
          repeat' (first
           | refine wp2_seq fun K hK => ?_
           | refine M_cons fun K hK => ?_
           | (refine hK _ ?_; clear hK K)
           | refine wp2_region ?_
           | simp (maxSteps := 4000000) (disch := omega) [hv])
          all_goals try (simp [hv, Back]; done)
end Cal

set_option linter.unusedSimpArgs false
set_option linter.unusedVariables false
namespace Cal
open Go Go.Proofs
set_option maxRecDepth 100000
/-! ## networks whose rows are written: a way's cells name its rows -/
def wcell (i : Nat) (a : Int × Bool) (n m : Nat) : List AV := [.t (.v (.int .i64 a.1)), .t (.v (.bool a.2)), .row (70001, i) 1 0 n, .row (70002, i) 1 0 m]
def wcells (f : Nat → Int × Bool) (ns ms : Nat → Nat) (len : Nat) : List (List AV) := (List.range len).map fun i => wcell i (f i) (ns i) (ms i)
@[simp] theorem wcells_length (f : Nat → Int × Bool) (ns ms : Nat → Nat) (len : Nat) : (wcells f ns ms len).length = len := by simp [wcells]
@[simp] theorem wcells_get {f : Nat → Int × Bool} {ns ms : Nat → Nat} {len i : Nat} (h : i < len) : (wcells f ns ms len)[i]? = some (wcell i (f i) (ns i) (ms i)) := by simp [wcells, h]
@[simp] theorem wcell_length (i : Nat) (a : Int × Bool) (n m : Nat) : (wcell i a n m).length = 4 := rfl
@[simp] theorem over_w0 (i : Nat) (a : Int × Bool) (n m : Nat) (x : Int) : over (wcell i a n m) 0 [.t (.v (.int .i64 x))] = wcell i (x, a.2) n m := rfl
@[simp] theorem over_w1 (i : Nat) (a : Int × Bool) (n m : Nat) (x : Bool) : over (wcell i a n m) 1 [.t (.v (.bool x))] = wcell i (a.1, x) n m := rfl
@[simp] theorem over_w0' (i : Nat) (a : Int × Bool) (n m : Nat) (x : Int) : AV.t (.v (.int .i64 x)) :: (wcell i a n m).tail = wcell i (x, a.2) n m := rfl
@[simp] theorem over_w1' (i : Nat) (a : Int × Bool) (n m : Nat) (x : Bool) : List.take 1 (wcell i a n m) ++ AV.t (.v (.bool x)) :: List.drop 2 (wcell i a n m) = wcell i (a.1, x) n m := rfl
@[simp] theorem take_w2 (i : Nat) (a : Int × Bool) (n m : Nat) : List.take 1 (List.drop 2 (wcell i a n m)) = [.row (70001, i) 1 0 n] := rfl
@[simp] theorem take_w3 (i : Nat) (a : Int × Bool) (n m : Nat) : List.take 1 (List.drop 3 (wcell i a n m)) = [.row (70002, i) 1 0 m] := rfl
@[simp] theorem wcells_set (f : Nat → Int × Bool) (ns ms : Nat → Nat) (len i : Nat) (a : Int × Bool) : (wcells f ns ms len).set i (wcell i a (ns i) (ms i)) = wcells (fun j => if j = i then a else f j) ns ms len := by
  apply List.ext_getElem?
  intro j
  rw [List.getElem?_set]
  by_cases hj : i = j
  · subst hj
    by_cases hl : i < len
    · simp [wcells, hl]
    · simp [wcells, hl]
  · have : ¬ j = i := fun e => hj e.symm
    by_cases hl : j < len
    · simp [wcells, hj, hl, this]
    · simp [wcells, hj, hl]
@[simp] theorem wcell_kills (i : Nat) (a : Int × Bool) (n m : Nat) (ds : List Nat) : AV.kills ds (wcell i a n m) = if (ds.contains 70001 || ds.contains 70002) = true then [.t (.v (.int .i64 a.1)), .t (.v (.bool a.2)), (AV.row (70001, i) 1 0 n).kill ds, (AV.row (70002, i) 1 0 m).kill ds] else wcell i a n m := by
  by_cases h1 : 70001 ∈ ds <;> by_cases h2 : 70002 ∈ ds <;> simp [wcell, h1, h2]
@[simp] theorem wcells_kills (f : Nat → Int × Bool) (ns ms : Nat → Nat) (len : Nat) (ds : List Nat) : (wcells f ns ms len).map (AV.kills ds) = if (ds.contains 70001 || ds.contains 70002) = true then (List.range len).map (fun i => [.t (.v (.int .i64 (f i).1)), .t (.v (.bool (f i).2)), (AV.row (70001, i) 1 0 (ns i)).kill ds, (AV.row (70002, i) 1 0 (ms i)).kill ds]) else wcells f ns ms len := by
  split
  · rename_i h
    simp only [wcells, List.map_map]
    apply List.map_congr_left
    intro i _
    simp only [Function.comp_apply, wcell_kills, h, if_true]
  · rename_i h
    simp only [wcells, List.map_map]
    apply List.map_congr_left
    intro i _
    simp only [Function.comp_apply, wcell_kills]
    rw [if_neg h]
def accN (g : Nat → Nat) : Nat → Nat
  | 0 => 0
  | n + 1 => accN g n + g n
theorem accN_mono (g : Nat → Nat) {i j : Nat} (h : i ≤ j) : accN g i ≤ accN g j := by
  induction j with
  | zero => obtain rfl : i = 0 := by omega
            exact Nat.le_refl _
  | succ j ih =>
    rcases Nat.lt_or_ge i (j + 1) with h1 | h1
    · have := ih (by omega)
      show accN g i ≤ accN g j + g j
      omega
    · obtain rfl : i = j + 1 := by omega
      exact Nat.le_refl _
/-- The code of laws.markWayS. -/
def k37 : Code1 :=
 (.seq
 (.region [] false ([]) [
 ⟨some 4,Op.assign (Operand.const (Value.int IntKind.i64 0)),none⟩])
 (.seq
 (.seq
 (.region [] false ([]) [
 ⟨some 5,Op.assign (Operand.const (Value.int IntKind.i64 0)),none⟩])
 (.block 0
 (.loop
 (.seq
 (.seq
 (.region [] false ([]) [
 ⟨some 6,Op.move (Operand.tmp 5),none⟩,
 ⟨some 7,Op.move (Operand.tmp 0),none⟩,
 ⟨some 8,Op.call {callee:=Callee.builtin Builtin.len,args:=#[Operand.tmp 7],argTypes:=#[31]},none⟩,
 ⟨some 9,Op.binOp BinOp.lss 3 (Operand.tmp 6) (Operand.tmp 8) 3,none⟩])
 (.cond (Operand.tmp 9)
 .skip
 (.exit 0)))
 (.seq
 (.block 1
 (.seq
 (.region [] false ([]) [
 ⟨some 12,Op.move (Operand.tmp 0),none⟩,
 ⟨some 13,Op.move (Operand.tmp 5),none⟩,
 ⟨some 14,Op.move (Operand.tmp 1),none⟩,
 ⟨some 15,Op.indexAddr 31 (Operand.tmp 12) (Operand.tmp 13),none⟩,
 ⟨some 16,Op.fieldAddr 55 (Operand.tmp 15) 0,none⟩,
 ⟨none,Op.store 2 (Operand.tmp 16) (Operand.tmp 14),none⟩])
 (.seq
 (.region [] false ([]) [
 ⟨some 17,Op.move (Operand.tmp 1),none⟩,
 ⟨some 18,Op.binOp BinOp.add 3 (Operand.tmp 17) (Operand.const (Value.int IntKind.i64 1)) 3,none⟩,
 ⟨some 1,Op.assign (Operand.tmp 18),none⟩])
 (.seq
 (.region [] false ([]) [
 ⟨some 19,Op.move (Operand.tmp 0),none⟩,
 ⟨some 20,Op.move (Operand.tmp 5),none⟩,
 ⟨some 21,Op.move (Operand.tmp 1),none⟩,
 ⟨some 22,Op.binOp BinOp.rem 3 (Operand.tmp 21) (Operand.const (Value.int IntKind.i64 3)) 3,none⟩,
 ⟨some 23,Op.binOp BinOp.eql 3 (Operand.tmp 22) (Operand.const (Value.int IntKind.i64 0)) 3,none⟩,
 ⟨some 24,Op.indexAddr 31 (Operand.tmp 19) (Operand.tmp 20),none⟩,
 ⟨some 25,Op.fieldAddr 55 (Operand.tmp 24) 1,none⟩,
 ⟨none,Op.store 4 (Operand.tmp 25) (Operand.tmp 23),none⟩])
 (.seq
 (.region [] false ([]) [
 ⟨some 26,Op.move (Operand.tmp 1),none⟩,
 ⟨some 27,Op.binOp BinOp.add 3 (Operand.tmp 26) (Operand.const (Value.int IntKind.i64 1)) 3,none⟩,
 ⟨some 1,Op.assign (Operand.tmp 27),none⟩])
 (.seq
 (.region [34] false ([]) [
 ⟨some 28,Op.move (Operand.tmp 0),none⟩,
 ⟨some 29,Op.move (Operand.tmp 5),none⟩,
 ⟨some 30,Op.indexAddr 31 (Operand.tmp 28) (Operand.tmp 29),none⟩,
 ⟨some 31,Op.fieldAddr 55 (Operand.tmp 30) 2,none⟩,
 ⟨some 32,Op.load 22 (Operand.tmp 31),none⟩,
 ⟨some 33,Op.move (Operand.tmp 1),none⟩,
 ⟨some 34,Op.call {callee:=Callee.value (Operand.func 36),args:=#[Operand.tmp 32,Operand.tmp 33],argTypes:=#[22,3]},none⟩,
 ⟨some 1,Op.assign (Operand.tmp 34),none⟩])
 (.region [41] false ([]) [
 ⟨some 35,Op.move (Operand.tmp 0),none⟩,
 ⟨some 36,Op.move (Operand.tmp 5),none⟩,
 ⟨some 37,Op.indexAddr 31 (Operand.tmp 35) (Operand.tmp 36),none⟩,
 ⟨some 38,Op.fieldAddr 55 (Operand.tmp 37) 3,none⟩,
 ⟨some 39,Op.load 22 (Operand.tmp 38),none⟩,
 ⟨some 40,Op.move (Operand.tmp 1),none⟩,
 ⟨some 41,Op.call {callee:=Callee.value (Operand.func 36),args:=#[Operand.tmp 39,Operand.tmp 40],argTypes:=#[22,3]},none⟩,
 ⟨some 1,Op.assign (Operand.tmp 41),none⟩])))))))
 (.region [] false ([]) [
 ⟨some 10,Op.move (Operand.tmp 5),none⟩,
 ⟨some 11,Op.binOp BinOp.add 3 (Operand.tmp 10) (Operand.const (Value.int IntKind.i64 1)) 3,none⟩,
 ⟨some 5,Op.assign (Operand.tmp 11),none⟩]))))))
 (.seq
 (.region [] false ([]) [
 ⟨some 42,Op.move (Operand.tmp 1),none⟩,
 ⟨some 4,Op.assign (Operand.tmp 42),none⟩])
 .ret)))
set_option maxHeartbeats 0 in
theorem markWs_inl (s : St) (hc : s.Calm [] [70001, 70002, 70004]) {R : AV → St → Prop} (f : Nat → Int × Bool) (ns ms : Nat → Nat) (len : Nat) (k : Int) (h0 : 0 ≤ k) (hk : k + accN (fun i => 2 + ns i + ms i) len ≤ 900000000) (hl : len ≤ 1048576) (hs1 : ∀ i, i < len → ns i ≤ 1048576) (hs2 : ∀ i, i < len → ms i ≤ 1048576)
    (ho : s.ob (70004, 0) = some (.big 4 (wcells f ns ms len))) (hn : ∀ i, i < len → ∃ l, l.length = ns i ∧ s.ob (70001, i) = some (.row 1 (intRow l))) (hm : ∀ i, i < len → ∃ l, l.length = ms i ∧ s.ob (70002, i) = some (.row 1 (intRow l)))
    (hR : ∀ s', Keep [70001, 70002, 70004] s s' → R (.t (.v (.int .i64 (k + accN (fun i => 2 + ns i + ms i) len)))) s') :
    Inl Tryd.prog 37 [.row (70004, 0) 4 0 len, .t (.v (.int .i64 k))] s R := by
  refine inl_of_wp2 (fn := Tryd.f37) (k := k37) (fun _ => []) mixed (by kernel_rfl) rfl (by kernel_rfl) (by kernel_rfl) rfl (by simp [Tryd.f37]) ?_
  generalize hst : s.body [.row (70004, 0) 4 0 len, .t (.v (.int .i64 k))] = st0
  have q0 : ∀ F, Keep F s st0 := fun F => by rw [← hst]; exact (Keep.refl F s).body _
  have hob : st0.ob = s.ob := by rw [← hst]; rfl
  have t0 : st0.tm 0 = .row (70004, 0) 4 0 len := by rw [← hst]; rfl
  have t1 : st0.tm 1 = .t (.v (.int .i64 k)) := by rw [← hst]; rfl
  clear hst
  unfold k37
  have o0 : st0.ob (70004, 0) = some (.big 4 (wcells f ns ms len)) := by rw [hob]; exact ho
  repeat' (first
   | refine wp2_seq fun K hK => ?_
   | refine M_cons fun K hK => ?_
   | (refine hK _ ?_; clear hK K)
   | refine wp2_block ?_
   | refine wp2_region ?_
   | simp (maxSteps := 4000000) (disch := omega) [t0, t1, o0])
  have hJ : ∀ s1, Keep [70001, 70002, 70004] s s1 → s1.tm 1 = .t (.v (.int .i64 (k + accN (fun i => 2 + ns i + ms i) len))) → K s1 := by
    intro s1 q1 s11
    repeat' (first
     | refine wp2_seq fun K hK => ?_
     | refine M_cons fun K hK => ?_
     | (refine hK _ ?_; clear hK K)
     | refine wp2_region ?_
     | simp (maxSteps := 4000000) (disch := omega) [s11])
    refine ⟨_, by simp [resultA, resA, s11], hR _ ?_⟩
    refine Keep.bare ?_
    (repeat' first | exact q1 | exact q1 _ | refine Keep.put ?_ _ _ | refine Keep.setOb ?_ (by first | rfl | simp) _ | refine Keep.kill hc ?_ (by first | rfl | simp) | refine Keep.ren hc ?_ (by first | rfl | simp) | refine Keep.ren1 hc ?_ (by first | rfl | simp) | refine Keep.kill1 hc ?_ (by first | rfl | simp))
  clear hK
  refine wp2_loop (fun n s1 => ∃ (j : Nat) (g : Nat → Int × Bool), Keep [70001, 70002, 70004] s s1 ∧ s1.tm 0 = .row (70004, 0) 4 0 len ∧ s1.tm 1 = .t (.v (.int .i64 (k + accN (fun i => 2 + ns i + ms i) j))) ∧ s1.tm 5 = .t (.v (.int .i64 j)) ∧ s1.ob (70004, 0) = some (.big 4 (wcells g ns ms len)) ∧ (∀ i, i < len → ∃ l, l.length = ns i ∧ s1.ob (70001, i) = some (.row 1 (intRow l))) ∧ (∀ i, i < len → ∃ l, l.length = ms i ∧ s1.ob (70002, i) = some (.row 1 (intRow l))) ∧ j ≤ len ∧ n = len - j) len ?_ ?_
  · refine ⟨0, f, ?_, ?_⟩
    · (repeat' first | exact q0 | exact q0 _ | refine Keep.put ?_ _ _ | refine Keep.setOb ?_ (by first | rfl | simp) _ | refine Keep.kill hc ?_ (by first | rfl | simp) | refine Keep.ren hc ?_ (by first | rfl | simp) | refine Keep.ren1 hc ?_ (by first | rfl | simp) | refine Keep.kill1 hc ?_ (by first | rfl | simp))
    · simp [t0, t1, hob, ho, accN]
      exact ⟨hn, hm⟩
  · rintro n s1 ⟨j, g, q1, s10, s11, s15, o1, n1, m1, hj, rfl⟩ K' hN
    by_cases hlt : j < len
    · obtain ⟨l1, e1, p1⟩ := n1 j hlt
      obtain ⟨l2, e2, p2⟩ := m1 j hlt
      have b1 := hs1 j hlt
      have b2 := hs2 j hlt
      have am := accN_mono (fun i => 2 + ns i + ms i) (show j + 1 ≤ len by omega)
      have ae : accN (fun i => 2 + ns i + ms i) (j + 1) = accN (fun i => 2 + ns i + ms i) j + (2 + ns j + ms j) := rfl
      repeat' (first
       | refine wp2_seq fun K hK => ?_
       | refine M_cons fun K hK => ?_
       | (refine hK _ ?_; clear hK K)
       | (refine hX _ ?_; clear hX hY X Y)
       | (refine hY _ ?_; clear hX hY X Y)
       | refine wp2_block ?_
       | refine wp2_region ?_
       | refine wp2_cond fun X Y hX hY => ?_
       | (refine condK_of (fun c => ?_) (fun c => ?_) <;> (try simp [-List.length_eq_zero_iff] at c))
       | (refine callT_mrow (markI _ _ ?_ ?_ ?_) (by simp [s10, s11, s15, o1, p1, p2, e1, e2]; rfl) (by first | (simp; done) | omega) rfl (by simp [RV.flat, T.flat]) (by (repeat' first | exact flat_intRow _ | exact flat_boolRow _ | exact flat_recE _ | exact trivial | constructor | unfold Arg.flats | unfold Arg.flat); first | done | fail) ?_; omega; omega; omega)
       | simp (maxSteps := 4000000) (disch := omega) [s10, s11, s15, o1, p1, p2, e1, e2])
      all_goals first
        | omega
        | (refine hN (len - (j + 1)) _ (by omega) ⟨j + 1, (fun i => if i = j then (k + (accN (fun i => 2 + ns i + ms i) j : Int), (k + (accN (fun i => 2 + ns i + ms i) j : Int) + 1).tmod 3 == 0) else g i), ?_, ?_⟩)
      · (repeat' first | exact q1 | exact q1 _ | refine Keep.put ?_ _ _ | refine Keep.setOb ?_ (by first | rfl | simp) _ | refine Keep.kill hc ?_ (by first | rfl | simp) | refine Keep.ren hc ?_ (by first | rfl | simp) | refine Keep.ren1 hc ?_ (by first | rfl | simp) | refine Keep.kill1 hc ?_ (by first | rfl | simp))
      · refine ⟨by simp [s10], by simp [ae]; omega, by simp, by (simp [o1]; refine congrArg (fun h => wcells h ns ms len) ?_; funext i; by_cases e : i = j <;> simp [e]), fun i hi => ?_, fun i hi => ?_, by omega, by omega⟩
        · by_cases e : i = j
          · subst e
            exact ⟨marked _ (ns i), by simp, by simp; rfl⟩
          · obtain ⟨l, h1, h2⟩ := n1 i hi
            exact ⟨l, h1, by simp [e, h2]⟩
        · by_cases e : i = j
          · subst e
            exact ⟨marked _ (ms i), by simp, by simp; rfl⟩
          · obtain ⟨l, h1, h2⟩ := m1 i hi
            exact ⟨l, h1, by simp [e, h2]⟩
    · have hjl : j = len := by omega
      subst hjl
      repeat' (first
       | refine wp2_seq fun K hK => ?_
       | refine M_cons fun K hK => ?_
       | (refine hK _ ?_; clear hK K)
       | (refine hY _ ?_; clear hX hY X Y)
       | refine wp2_region ?_
       | refine wp2_cond fun X Y hX hY => ?_
       | (refine condK_of (fun c => ?_) (fun c => ?_) <;> (try simp [-List.length_eq_zero_iff] at c))
       | simp (maxSteps := 4000000) (disch := omega) [s10, s11, s15, o1])
      all_goals first
        | omega
        | (refine hJ _ ?_ (by simp [s11]); done)
        | skip
      refine hJ _ ?_ (by simp [s11])
      (repeat' first | exact q1 | exact q1 _ | refine Keep.put ?_ _ _ | refine Keep.setOb ?_ (by first | rfl | simp) _ | refine Keep.kill hc ?_ (by first | rfl | simp) | refine Keep.ren hc ?_ (by first | rfl | simp) | refine Keep.ren1 hc ?_ (by first | rfl | simp) | refine Keep.kill1 hc ?_ (by first | rfl | simp))
end Cal

set_option linter.unusedSimpArgs false
set_option linter.unusedVariables false
namespace Cal
open Go Go.Proofs
set_option maxRecDepth 100000
abbrev R6 := Int × Bool × Int × Int × Bool × Int
def rcell (i : Nat) (a : R6) (n : Nat) : List AV := [.t (.v (.int .i64 a.1)), .t (.v (.bool a.2.1)), .t (.v (.int .i64 a.2.2.1)), .t (.v (.int .i64 a.2.2.2.1)), .t (.v (.bool a.2.2.2.2.1)), .t (.v (.int .i64 a.2.2.2.2.2)), .row (70003, i) 1 0 n]
def rcells (f : Nat → R6) (ns : Nat → Nat) (len : Nat) : List (List AV) := (List.range len).map fun i => rcell i (f i) (ns i)
@[simp] theorem rcells_length (f : Nat → R6) (ns : Nat → Nat) (len : Nat) : (rcells f ns len).length = len := by simp [rcells]
@[simp] theorem rcells_get {f : Nat → R6} {ns : Nat → Nat} {len i : Nat} (h : i < len) : (rcells f ns len)[i]? = some (rcell i (f i) (ns i)) := by simp [rcells, h]
@[simp] theorem rcell_length (i : Nat) (a : R6) (n : Nat) : (rcell i a n).length = 7 := rfl
section
variable (i : Nat) (a : R6) (n : Nat) (x : Int) (b : Bool)
@[simp] theorem over_r0 : over (rcell i a n) 0 [.t (.v (.int .i64 x))] = rcell i (x, a.2) n := rfl
@[simp] theorem over_r1 : over (rcell i a n) 1 [.t (.v (.bool b))] = rcell i (a.1, b, a.2.2) n := rfl
@[simp] theorem over_r2 : over (rcell i a n) 2 [.t (.v (.int .i64 x))] = rcell i (a.1, a.2.1, x, a.2.2.2) n := rfl
@[simp] theorem over_r3 : over (rcell i a n) 3 [.t (.v (.int .i64 x))] = rcell i (a.1, a.2.1, a.2.2.1, x, a.2.2.2.2) n := rfl
@[simp] theorem over_r4 : over (rcell i a n) 4 [.t (.v (.bool b))] = rcell i (a.1, a.2.1, a.2.2.1, a.2.2.2.1, b, a.2.2.2.2.2) n := rfl
@[simp] theorem over_r5 : over (rcell i a n) 5 [.t (.v (.int .i64 x))] = rcell i (a.1, a.2.1, a.2.2.1, a.2.2.2.1, a.2.2.2.2.1, x) n := rfl
@[simp] theorem over_r0' : AV.t (.v (.int .i64 x)) :: (rcell i a n).tail = rcell i (x, a.2) n := rfl
@[simp] theorem over_r1' : List.take 1 (rcell i a n) ++ AV.t (.v (.bool b)) :: List.drop 2 (rcell i a n) = rcell i (a.1, b, a.2.2) n := rfl
@[simp] theorem over_r2' : List.take 2 (rcell i a n) ++ AV.t (.v (.int .i64 x)) :: List.drop 3 (rcell i a n) = rcell i (a.1, a.2.1, x, a.2.2.2) n := rfl
@[simp] theorem over_r3' : List.take 3 (rcell i a n) ++ AV.t (.v (.int .i64 x)) :: List.drop 4 (rcell i a n) = rcell i (a.1, a.2.1, a.2.2.1, x, a.2.2.2.2) n := rfl
@[simp] theorem over_r4' : List.take 4 (rcell i a n) ++ AV.t (.v (.bool b)) :: List.drop 5 (rcell i a n) = rcell i (a.1, a.2.1, a.2.2.1, a.2.2.2.1, b, a.2.2.2.2.2) n := rfl
@[simp] theorem over_r5' : List.take 5 (rcell i a n) ++ AV.t (.v (.int .i64 x)) :: List.drop 6 (rcell i a n) = rcell i (a.1, a.2.1, a.2.2.1, a.2.2.2.1, a.2.2.2.2.1, x) n := rfl
@[simp] theorem take_r6 : List.take 1 (List.drop 6 (rcell i a n)) = [.row (70003, i) 1 0 n] := rfl
end
@[simp] theorem rcells_set (f : Nat → R6) (ns : Nat → Nat) (len i : Nat) (a : R6) : (rcells f ns len).set i (rcell i a (ns i)) = rcells (fun j => if j = i then a else f j) ns len := by
  apply List.ext_getElem?
  intro j
  rw [List.getElem?_set]
  by_cases hj : i = j
  · subst hj
    by_cases hl : i < len
    · simp [rcells, hl]
    · simp [rcells, hl]
  · have : ¬ j = i := fun e => hj e.symm
    by_cases hl : j < len
    · simp [rcells, hj, hl, this]
    · simp [rcells, hj, hl]
@[simp] theorem rcell_kills (i : Nat) (a : R6) (n : Nat) (ds : List Nat) : AV.kills ds (rcell i a n) = if ds.contains 70003 = true then [.t (.v (.int .i64 a.1)), .t (.v (.bool a.2.1)), .t (.v (.int .i64 a.2.2.1)), .t (.v (.int .i64 a.2.2.2.1)), .t (.v (.bool a.2.2.2.2.1)), .t (.v (.int .i64 a.2.2.2.2.2)), (AV.row (70003, i) 1 0 n).kill ds] else rcell i a n := by
  by_cases h1 : 70003 ∈ ds <;> simp [rcell, h1]
@[simp] theorem rcells_kills (f : Nat → R6) (ns : Nat → Nat) (len : Nat) (ds : List Nat) : (rcells f ns len).map (AV.kills ds) = if ds.contains 70003 = true then (rcells f ns len).map (fun e => AV.kills ds e) else rcells f ns len := by
  split
  · rfl
  · rename_i h
    simp only [rcells, List.map_map]
    apply List.map_congr_left
    intro i _
    simp only [Function.comp_apply, rcell_kills]
    rw [if_neg h]
/-- The code of laws.markRelationS. -/
def k38 : Code1 :=
 (.seq
 (.region [] false ([]) [
 ⟨some 4,Op.assign (Operand.const (Value.int IntKind.i64 0)),none⟩])
 (.seq
 (.seq
 (.region [] false ([]) [
 ⟨some 5,Op.assign (Operand.const (Value.int IntKind.i64 0)),none⟩])
 (.block 0
 (.loop
 (.seq
 (.seq
 (.region [] false ([]) [
 ⟨some 6,Op.move (Operand.tmp 5),none⟩,
 ⟨some 7,Op.move (Operand.tmp 0),none⟩,
 ⟨some 8,Op.call {callee:=Callee.builtin Builtin.len,args:=#[Operand.tmp 7],argTypes:=#[32]},none⟩,
 ⟨some 9,Op.binOp BinOp.lss 3 (Operand.tmp 6) (Operand.tmp 8) 3,none⟩])
 (.cond (Operand.tmp 9)
 .skip
 (.exit 0)))
 (.seq
 (.block 1
 (.seq
 (.region [] false ([]) [
 ⟨some 12,Op.move (Operand.tmp 0),none⟩,
 ⟨some 13,Op.move (Operand.tmp 5),none⟩,
 ⟨some 14,Op.move (Operand.tmp 1),none⟩,
 ⟨some 15,Op.indexAddr 32 (Operand.tmp 12) (Operand.tmp 13),none⟩,
 ⟨some 16,Op.fieldAddr 58 (Operand.tmp 15) 0,none⟩,
 ⟨none,Op.store 2 (Operand.tmp 16) (Operand.tmp 14),none⟩])
 (.seq
 (.region [] false ([]) [
 ⟨some 17,Op.move (Operand.tmp 1),none⟩,
 ⟨some 18,Op.binOp BinOp.add 3 (Operand.tmp 17) (Operand.const (Value.int IntKind.i64 1)) 3,none⟩,
 ⟨some 1,Op.assign (Operand.tmp 18),none⟩])
 (.seq
 (.region [] false ([]) [
 ⟨some 19,Op.move (Operand.tmp 0),none⟩,
 ⟨some 20,Op.move (Operand.tmp 5),none⟩,
 ⟨some 21,Op.move (Operand.tmp 1),none⟩,
 ⟨some 22,Op.binOp BinOp.rem 3 (Operand.tmp 21) (Operand.const (Value.int IntKind.i64 3)) 3,none⟩,
 ⟨some 23,Op.binOp BinOp.eql 3 (Operand.tmp 22) (Operand.const (Value.int IntKind.i64 0)) 3,none⟩,
 ⟨some 24,Op.indexAddr 32 (Operand.tmp 19) (Operand.tmp 20),none⟩,
 ⟨some 25,Op.fieldAddr 58 (Operand.tmp 24) 1,none⟩,
 ⟨none,Op.store 4 (Operand.tmp 25) (Operand.tmp 23),none⟩])
 (.seq
 (.region [] false ([]) [
 ⟨some 26,Op.move (Operand.tmp 1),none⟩,
 ⟨some 27,Op.binOp BinOp.add 3 (Operand.tmp 26) (Operand.const (Value.int IntKind.i64 1)) 3,none⟩,
 ⟨some 1,Op.assign (Operand.tmp 27),none⟩])
 (.seq
 (.region [] false ([]) [
 ⟨some 28,Op.move (Operand.tmp 0),none⟩,
 ⟨some 29,Op.move (Operand.tmp 5),none⟩,
 ⟨some 30,Op.move (Operand.tmp 1),none⟩,
 ⟨some 31,Op.indexAddr 32 (Operand.tmp 28) (Operand.tmp 29),none⟩,
 ⟨some 32,Op.fieldAddr 58 (Operand.tmp 31) 2,none⟩,
 ⟨none,Op.store 2 (Operand.tmp 32) (Operand.tmp 30),none⟩])
 (.seq
 (.region [] false ([]) [
 ⟨some 33,Op.move (Operand.tmp 1),none⟩,
 ⟨some 34,Op.binOp BinOp.add 3 (Operand.tmp 33) (Operand.const (Value.int IntKind.i64 1)) 3,none⟩,
 ⟨some 1,Op.assign (Operand.tmp 34),none⟩])
 (.seq
 (.region [] false ([]) [
 ⟨some 35,Op.move (Operand.tmp 0),none⟩,
 ⟨some 36,Op.move (Operand.tmp 5),none⟩,
 ⟨some 37,Op.move (Operand.tmp 1),none⟩,
 ⟨some 38,Op.indexAddr 32 (Operand.tmp 35) (Operand.tmp 36),none⟩,
 ⟨some 39,Op.fieldAddr 58 (Operand.tmp 38) 3,none⟩,
 ⟨none,Op.store 2 (Operand.tmp 39) (Operand.tmp 37),none⟩])
 (.seq
 (.region [] false ([]) [
 ⟨some 40,Op.move (Operand.tmp 1),none⟩,
 ⟨some 41,Op.binOp BinOp.add 3 (Operand.tmp 40) (Operand.const (Value.int IntKind.i64 1)) 3,none⟩,
 ⟨some 1,Op.assign (Operand.tmp 41),none⟩])
 (.seq
 (.region [] false ([]) [
 ⟨some 42,Op.move (Operand.tmp 0),none⟩,
 ⟨some 43,Op.move (Operand.tmp 5),none⟩,
 ⟨some 44,Op.move (Operand.tmp 1),none⟩,
 ⟨some 45,Op.binOp BinOp.rem 3 (Operand.tmp 44) (Operand.const (Value.int IntKind.i64 3)) 3,none⟩,
 ⟨some 46,Op.binOp BinOp.eql 3 (Operand.tmp 45) (Operand.const (Value.int IntKind.i64 0)) 3,none⟩,
 ⟨some 47,Op.indexAddr 32 (Operand.tmp 42) (Operand.tmp 43),none⟩,
 ⟨some 48,Op.fieldAddr 58 (Operand.tmp 47) 4,none⟩,
 ⟨none,Op.store 4 (Operand.tmp 48) (Operand.tmp 46),none⟩])
 (.seq
 (.region [] false ([]) [
 ⟨some 49,Op.move (Operand.tmp 1),none⟩,
 ⟨some 50,Op.binOp BinOp.add 3 (Operand.tmp 49) (Operand.const (Value.int IntKind.i64 1)) 3,none⟩,
 ⟨some 1,Op.assign (Operand.tmp 50),none⟩])
 (.seq
 (.region [] false ([]) [
 ⟨some 51,Op.move (Operand.tmp 0),none⟩,
 ⟨some 52,Op.move (Operand.tmp 5),none⟩,
 ⟨some 53,Op.move (Operand.tmp 1),none⟩,
 ⟨some 54,Op.indexAddr 32 (Operand.tmp 51) (Operand.tmp 52),none⟩,
 ⟨some 55,Op.fieldAddr 58 (Operand.tmp 54) 5,none⟩,
 ⟨none,Op.store 2 (Operand.tmp 55) (Operand.tmp 53),none⟩])
 (.seq
 (.region [] false ([]) [
 ⟨some 56,Op.move (Operand.tmp 1),none⟩,
 ⟨some 57,Op.binOp BinOp.add 3 (Operand.tmp 56) (Operand.const (Value.int IntKind.i64 1)) 3,none⟩,
 ⟨some 1,Op.assign (Operand.tmp 57),none⟩])
 (.region [64] false ([]) [
 ⟨some 58,Op.move (Operand.tmp 0),none⟩,
 ⟨some 59,Op.move (Operand.tmp 5),none⟩,
 ⟨some 60,Op.indexAddr 32 (Operand.tmp 58) (Operand.tmp 59),none⟩,
 ⟨some 61,Op.fieldAddr 58 (Operand.tmp 60) 6,none⟩,
 ⟨some 62,Op.load 22 (Operand.tmp 61),none⟩,
 ⟨some 63,Op.move (Operand.tmp 1),none⟩,
 ⟨some 64,Op.call {callee:=Callee.value (Operand.func 36),args:=#[Operand.tmp 62,Operand.tmp 63],argTypes:=#[22,3]},none⟩,
 ⟨some 1,Op.assign (Operand.tmp 64),none⟩]))))))))))))))
 (.region [] false ([]) [
 ⟨some 10,Op.move (Operand.tmp 5),none⟩,
 ⟨some 11,Op.binOp BinOp.add 3 (Operand.tmp 10) (Operand.const (Value.int IntKind.i64 1)) 3,none⟩,
 ⟨some 5,Op.assign (Operand.tmp 11),none⟩]))))))
 (.seq
 (.region [] false ([]) [
 ⟨some 65,Op.move (Operand.tmp 1),none⟩,
 ⟨some 4,Op.assign (Operand.tmp 65),none⟩])
 .ret)))
set_option maxHeartbeats 0 in
theorem markRs_inl (s : St) (hc : s.Calm [] [70003, 70005]) {R : AV → St → Prop} (f : Nat → R6) (ns : Nat → Nat) (len : Nat) (k : Int) (h0 : 0 ≤ k) (hk : k + accN (fun i => 6 + ns i) len ≤ 900000000) (hl : len ≤ 1048576) (hs1 : ∀ i, i < len → ns i ≤ 1048576)
    (ho : s.ob (70005, 0) = some (.big 7 (rcells f ns len))) (hn : ∀ i, i < len → ∃ l, l.length = ns i ∧ s.ob (70003, i) = some (.row 1 (intRow l)))
    (hR : ∀ s', Keep [70003, 70005] s s' → R (.t (.v (.int .i64 (k + accN (fun i => 6 + ns i) len)))) s') :
    Inl Tryd.prog 38 [.row (70005, 0) 7 0 len, .t (.v (.int .i64 k))] s R := by
  refine inl_of_wp2 (fn := Tryd.f38) (k := k38) (fun _ => []) mixed (by kernel_rfl) rfl (by kernel_rfl) (by kernel_rfl) rfl (by simp [Tryd.f38]) ?_
  generalize hst : s.body [.row (70005, 0) 7 0 len, .t (.v (.int .i64 k))] = st0
  have q0 : ∀ F, Keep F s st0 := fun F => by rw [← hst]; exact (Keep.refl F s).body _
  have hob : st0.ob = s.ob := by rw [← hst]; rfl
  have t0 : st0.tm 0 = .row (70005, 0) 7 0 len := by rw [← hst]; rfl
  have t1 : st0.tm 1 = .t (.v (.int .i64 k)) := by rw [← hst]; rfl
  clear hst
  unfold k38
  have o0 : st0.ob (70005, 0) = some (.big 7 (rcells f ns len)) := by rw [hob]; exact ho
  repeat' (first
   | refine wp2_seq fun K hK => ?_
   | refine M_cons fun K hK => ?_
   | (refine hK _ ?_; clear hK K)
   | refine wp2_block ?_
   | refine wp2_region ?_
   | simp (maxSteps := 4000000) (disch := omega) [t0, t1, o0])
  have hJ : ∀ s1, Keep [70003, 70005] s s1 → s1.tm 1 = .t (.v (.int .i64 (k + accN (fun i => 6 + ns i) len))) → K s1 := by
    intro s1 q1 s11
    repeat' (first
     | refine wp2_seq fun K hK => ?_
     | refine M_cons fun K hK => ?_
     | (refine hK _ ?_; clear hK K)
     | refine wp2_region ?_
     | simp (maxSteps := 4000000) (disch := omega) [s11])
    refine ⟨_, by simp [resultA, resA, s11], hR _ ?_⟩
    refine Keep.bare ?_
    (repeat' first | exact q1 | exact q1 _ | refine Keep.put ?_ _ _ | refine Keep.setOb ?_ (by first | rfl | simp) _ | refine Keep.kill hc ?_ (by first | rfl | simp) | refine Keep.ren hc ?_ (by first | rfl | simp) | refine Keep.ren1 hc ?_ (by first | rfl | simp) | refine Keep.kill1 hc ?_ (by first | rfl | simp))
  clear hK
  refine wp2_loop (fun n s1 => ∃ (j : Nat) (g : Nat → R6), Keep [70003, 70005] s s1 ∧ s1.tm 0 = .row (70005, 0) 7 0 len ∧ s1.tm 1 = .t (.v (.int .i64 (k + accN (fun i => 6 + ns i) j))) ∧ s1.tm 5 = .t (.v (.int .i64 j)) ∧ s1.ob (70005, 0) = some (.big 7 (rcells g ns len)) ∧ (∀ i, i < len → ∃ l, l.length = ns i ∧ s1.ob (70003, i) = some (.row 1 (intRow l))) ∧ j ≤ len ∧ n = len - j) len ?_ ?_
  · refine ⟨0, f, ?_, ?_⟩
    · (repeat' first | exact q0 | exact q0 _ | refine Keep.put ?_ _ _ | refine Keep.setOb ?_ (by first | rfl | simp) _ | refine Keep.kill hc ?_ (by first | rfl | simp) | refine Keep.ren hc ?_ (by first | rfl | simp) | refine Keep.ren1 hc ?_ (by first | rfl | simp) | refine Keep.kill1 hc ?_ (by first | rfl | simp))
    · simp [t0, t1, hob, ho, accN]
      exact hn
  · rintro n s1 ⟨j, g, q1, s10, s11, s15, o1, n1, hj, rfl⟩ K' hN
    by_cases hlt : j < len
    · obtain ⟨l1, e1, p1⟩ := n1 j hlt
      have b1 := hs1 j hlt
      have am := accN_mono (fun i => 6 + ns i) (show j + 1 ≤ len by omega)
      have ae : accN (fun i => 6 + ns i) (j + 1) = accN (fun i => 6 + ns i) j + (6 + ns j) := rfl
      generalize hA : k + (accN (fun i => 6 + ns i) j : Int) = A at *
      repeat' (first
       | refine wp2_seq fun K hK => ?_
       | refine M_cons fun K hK => ?_
       | (refine hK _ ?_; clear hK K)
       | (refine hX _ ?_; clear hX hY X Y)
       | (refine hY _ ?_; clear hX hY X Y)
       | refine wp2_block ?_
       | refine wp2_region ?_
       | refine wp2_cond fun X Y hX hY => ?_
       | (refine condK_of (fun c => ?_) (fun c => ?_) <;> (try simp [-List.length_eq_zero_iff] at c))
       | (refine callT_mrow (markI _ _ ?_ ?_ ?_) (by simp [s10, s11, s15, o1, p1, e1]; rfl) (by first | (simp; done) | omega) rfl (by simp [RV.flat, T.flat]) (by (repeat' first | exact flat_intRow _ | exact flat_boolRow _ | exact flat_recE _ | exact trivial | constructor | unfold Arg.flats | unfold Arg.flat); first | done | fail) ?_; omega; omega; omega)
       | simp (maxSteps := 4000000) (disch := omega) [s10, s11, s15, o1, p1, e1])
      all_goals first
        | omega
        | (refine hN (len - (j + 1)) _ (by omega) ⟨j + 1, (fun i => if i = j then (A, (A + 1).tmod 3 == 0, A + 1 + 1, A + 1 + 1 + 1, (A + 1 + 1 + 1 + 1).tmod 3 == 0, A + 1 + 1 + 1 + 1 + 1) else g i), ?_, ?_⟩)
      · (repeat' first | exact q1 | exact q1 _ | refine Keep.put ?_ _ _ | refine Keep.setOb ?_ (by first | rfl | simp) _ | refine Keep.kill hc ?_ (by first | rfl | simp) | refine Keep.ren hc ?_ (by first | rfl | simp) | refine Keep.ren1 hc ?_ (by first | rfl | simp) | refine Keep.kill1 hc ?_ (by first | rfl | simp))
      · refine ⟨by simp [s10], by simp [ae]; omega, by simp, by (simp [o1]; refine congrArg (fun h => rcells h ns len) ?_; funext i; by_cases e : i = j <;> simp [e]), fun i hi => ?_, by omega, by omega⟩
        by_cases e : i = j
        · subst e
          exact ⟨marked _ (ns i), by simp, by simp; rfl⟩
        · obtain ⟨l, h1, h2⟩ := n1 i hi
          exact ⟨l, h1, by simp [e, h2]⟩
    · have hjl : j = len := by omega
      subst hjl
      repeat' (first
       | refine wp2_seq fun K hK => ?_
       | refine M_cons fun K hK => ?_
       | (refine hK _ ?_; clear hK K)
       | (refine hY _ ?_; clear hX hY X Y)
       | refine wp2_region ?_
       | refine wp2_cond fun X Y hX hY => ?_
       | (refine condK_of (fun c => ?_) (fun c => ?_) <;> (try simp [-List.length_eq_zero_iff] at c))
       | simp (maxSteps := 4000000) (disch := omega) [s10, s11, s15, o1])
      all_goals first
        | omega
        | (refine hJ _ ?_ (by simp [s11]); done)
        | skip
      refine hJ _ ?_ (by simp [s11])
      (repeat' first | exact q1 | exact q1 _ | refine Keep.put ?_ _ _ | refine Keep.setOb ?_ (by first | rfl | simp) _ | refine Keep.kill hc ?_ (by first | rfl | simp) | refine Keep.ren hc ?_ (by first | rfl | simp) | refine Keep.ren1 hc ?_ (by first | rfl | simp) | refine Keep.kill1 hc ?_ (by first | rfl | simp))
end Cal

set_option linter.unusedSimpArgs false
set_option linter.unusedVariables false
namespace Cal
open Go Go.Proofs
set_option maxRecDepth 100000
/-- A row of records, by their places. -/
def rowF {α : Type} (enc : α → List T) (g : Nat → α) (len : Nat) : List (List T) := (List.range len).map fun i => enc (g i)
section
variable {α : Type} {enc : α → List T} {g : Nat → α} {len : Nat}
@[simp] theorem rowF_length : (rowF enc g len).length = len := by simp [rowF]
@[simp] theorem rowF_get {i : Nat} (h : i < len) : (rowF enc g len)[i]? = some (enc (g i)) := by simp [rowF, h]
@[simp] theorem rowF_set (i : Nat) (a : α) : (rowF enc g len).set i (enc a) = rowF enc (fun j => if j = i then a else g j) len := by
  apply List.ext_getElem?
  intro j
  rw [List.getElem?_set]
  by_cases hj : i = j
  · subst hj
    by_cases hl : i < len
    · simp [rowF, hl]
    · simp [rowF, hl]
  · have : ¬ j = i := fun e => hj e.symm
    by_cases hl : j < len
    · simp [rowF, hj, hl, this]
    · simp [rowF, hj, hl]
theorem rowF_congr {h : Nat → α} (e : ∀ i < len, g i = h i) : rowF enc g len = rowF enc h len := by
  unfold rowF
  exact List.map_congr_left fun i hi => by rw [e i (List.mem_range.1 hi)]
end
theorem recRow_rowF {α : Type} [Inhabited α] (enc : α → List T) (l : List α) : recRow enc l = rowF enc (fun i : Nat => nth l (i : Int)) l.length := by
  apply List.ext_getElem?
  intro i
  by_cases h : i < l.length
  · rw [recRow_get enc h, rowF_get h]
  · rw [List.getElem?_eq_none (by rw [recRow_length]; omega), List.getElem?_eq_none (by simp; omega)]
section
variable (c : Tc) (x : Int)
@[simp] theorem over_c0 : overT (encC c) 0 [.v (.int .i64 x)] = encC { c with fr := x } := rfl
@[simp] theorem over_c1 : overT (encC c) 1 [.v (.int .i64 x)] = encC { c with to := x } := rfl
@[simp] theorem over_c2 : overT (encC c) 2 [.v (.int .i64 x)] = encC { c with cost := x } := rfl
@[simp] theorem encC_length : (encC c).length = 3 := rfl
end
/-- The code of laws.markTurnCostS. -/
def k39 : Code1 :=
 (.seq
 (.region [] false ([]) [
 ⟨some 4,Op.assign (Operand.const (Value.int IntKind.i64 0)),none⟩])
 (.seq
 (.seq
 (.region [] false ([]) [
 ⟨some 5,Op.assign (Operand.const (Value.int IntKind.i64 0)),none⟩])
 (.block 0
 (.loop
 (.seq
 (.seq
 (.region [] false ([]) [
 ⟨some 6,Op.move (Operand.tmp 5),none⟩,
 ⟨some 7,Op.move (Operand.tmp 0),none⟩,
 ⟨some 8,Op.call {callee:=Callee.builtin Builtin.len,args:=#[Operand.tmp 7],argTypes:=#[33]},none⟩,
 ⟨some 9,Op.binOp BinOp.lss 3 (Operand.tmp 6) (Operand.tmp 8) 3,none⟩])
 (.cond (Operand.tmp 9)
 .skip
 (.exit 0)))
 (.seq
 (.block 1
 (.seq
 (.region [] false ([]) [
 ⟨some 12,Op.move (Operand.tmp 0),none⟩,
 ⟨some 13,Op.move (Operand.tmp 5),none⟩,
 ⟨some 14,Op.move (Operand.tmp 1),none⟩,
 ⟨some 15,Op.indexAddr 33 (Operand.tmp 12) (Operand.tmp 13),none⟩,
 ⟨some 16,Op.fieldAddr 60 (Operand.tmp 15) 0,none⟩,
 ⟨none,Op.store 2 (Operand.tmp 16) (Operand.tmp 14),none⟩])
 (.seq
 (.region [] false ([]) [
 ⟨some 17,Op.move (Operand.tmp 1),none⟩,
 ⟨some 18,Op.binOp BinOp.add 3 (Operand.tmp 17) (Operand.const (Value.int IntKind.i64 1)) 3,none⟩,
 ⟨some 1,Op.assign (Operand.tmp 18),none⟩])
 (.seq
 (.region [] false ([]) [
 ⟨some 19,Op.move (Operand.tmp 0),none⟩,
 ⟨some 20,Op.move (Operand.tmp 5),none⟩,
 ⟨some 21,Op.move (Operand.tmp 1),none⟩,
 ⟨some 22,Op.indexAddr 33 (Operand.tmp 19) (Operand.tmp 20),none⟩,
 ⟨some 23,Op.fieldAddr 60 (Operand.tmp 22) 1,none⟩,
 ⟨none,Op.store 2 (Operand.tmp 23) (Operand.tmp 21),none⟩])
 (.seq
 (.region [] false ([]) [
 ⟨some 24,Op.move (Operand.tmp 1),none⟩,
 ⟨some 25,Op.binOp BinOp.add 3 (Operand.tmp 24) (Operand.const (Value.int IntKind.i64 1)) 3,none⟩,
 ⟨some 1,Op.assign (Operand.tmp 25),none⟩])
 (.seq
 (.region [] false ([]) [
 ⟨some 26,Op.move (Operand.tmp 0),none⟩,
 ⟨some 27,Op.move (Operand.tmp 5),none⟩,
 ⟨some 28,Op.move (Operand.tmp 1),none⟩,
 ⟨some 29,Op.indexAddr 33 (Operand.tmp 26) (Operand.tmp 27),none⟩,
 ⟨some 30,Op.fieldAddr 60 (Operand.tmp 29) 2,none⟩,
 ⟨none,Op.store 2 (Operand.tmp 30) (Operand.tmp 28),none⟩])
 (.region [] false ([]) [
 ⟨some 31,Op.move (Operand.tmp 1),none⟩,
 ⟨some 32,Op.binOp BinOp.add 3 (Operand.tmp 31) (Operand.const (Value.int IntKind.i64 1)) 3,none⟩,
 ⟨some 1,Op.assign (Operand.tmp 32),none⟩])))))))
 (.region [] false ([]) [
 ⟨some 10,Op.move (Operand.tmp 5),none⟩,
 ⟨some 11,Op.binOp BinOp.add 3 (Operand.tmp 10) (Operand.const (Value.int IntKind.i64 1)) 3,none⟩,
 ⟨some 5,Op.assign (Operand.tmp 11),none⟩]))))))
 (.seq
 (.region [] false ([]) [
 ⟨some 33,Op.move (Operand.tmp 1),none⟩,
 ⟨some 4,Op.assign (Operand.tmp 33),none⟩])
 .ret)))
set_option maxHeartbeats 0 in
theorem markCs (l : List Tc) (k : Int) (h0 : 0 ≤ k) (hk : k + 3 * l.length ≤ 900000000) : CallsF Tryd.prog 39 [.mrow 3 (recRow encC l), .val (.v (.int .i64 k))] (.t (.v (.int .i64 (k + 3 * l.length)))) [none] := by
  refine callsF_of_wp2 (fn := Tryd.f39) (k := k39) (fun _ => []) mixed (by kernel_rfl) rfl (by kernel_rfl) (by kernel_rfl) (by kernel_rfl) rfl (by simp [Tryd.f39]) (by simp [Arg.like]) ?_
  generalize hst : St.enter [.mrow 3 (recRow encC l), .val (.v (.int .i64 k))] = st0
  have t0 : st0.tm 0 = .row (100000, 0) 3 0 ((recRow encC l)).length := by rw [← hst]; rfl
  have o0 : st0.ob (100000, 0) = some (.row 3 (recRow encC l)) := by rw [← hst]; rfl
  have t1 : st0.tm 1 = .t (.v (.int .i64 k)) := by rw [← hst]; rfl
  clear hst
  unfold k39
  rw [recRow_length] at t0
  rw [recRow_rowF] at o0
  repeat' (first
   | refine wp2_seq fun K hK => ?_
   | refine M_cons fun K hK => ?_
   | (refine hK _ ?_; clear hK K)
   | refine wp2_block ?_
   | refine wp2_region ?_
   | simp (maxSteps := 4000000) (disch := omega) [t0, o0, t1])
  have hJ : ∀ s1, s1.tm 1 = .t (.v (.int .i64 (k + 3 * l.length))) → K s1 := by
    intro s1 s11
    repeat' (first
     | refine wp2_seq fun K hK => ?_
     | refine M_cons fun K hK => ?_
     | (refine hK _ ?_; clear hK K)
     | refine wp2_region ?_
     | simp (maxSteps := 4000000) (disch := omega) [s11])
    all_goals try (simp [s11, Back]; done)
  clear hK
  refine wp2_loop (fun n s1 => ∃ (j : Nat) (g : Nat → Tc), s1.tm 0 = .row (100000, 0) 3 0 l.length ∧ s1.tm 1 = .t (.v (.int .i64 (k + 3 * j))) ∧ s1.tm 5 = .t (.v (.int .i64 j)) ∧ s1.ob (100000, 0) = some (.row 3 (rowF encC g l.length)) ∧ j ≤ l.length ∧ n = l.length - j) l.length ?_ ?_
  · exact ⟨0, _, by simp [t0, t1, o0]; rfl⟩
  · rintro n s1 ⟨j, g, s10, s11, s15, o1, hj, rfl⟩ K' hN
    by_cases hlt : j < l.length
    · repeat' (first
     | refine wp2_seq fun K hK => ?_
     | refine M_cons fun K hK => ?_
     | (refine hK _ ?_; clear hK K)
     | (refine hX _ ?_; clear hX hY X Y)
     | (refine hY _ ?_; clear hX hY X Y)
     | refine wp2_block ?_
     | refine wp2_region ?_
     | refine wp2_cond fun X Y hX hY => ?_
     | (refine condK_of (fun c => ?_) (fun c => ?_) <;> (try simp [-List.length_eq_zero_iff] at c))
     | simp (maxSteps := 4000000) (disch := omega) [s10, s11, s15, o1])
      all_goals first
        | omega
        | (refine hN (l.length - (j + 1)) _ (by omega) ⟨j + 1, (fun i => if i = j then ⟨k + 3 * j, k + 3 * j + 1, k + 3 * j + 1 + 1⟩ else g i), ?_⟩)
        | skip
      simp [s10, o1]
      refine ⟨by omega, rowF_congr fun i hi => ?_, by omega⟩
      by_cases e : i = j <;> simp [e]
    · have hjl : j = l.length := by omega
      subst hjl
      repeat' (first
       | refine wp2_seq fun K hK => ?_
       | refine M_cons fun K hK => ?_
       | (refine hK _ ?_; clear hK K)
       | (refine hY _ ?_; clear hX hY X Y)
       | refine wp2_region ?_
       | refine wp2_cond fun X Y hX hY => ?_
       | (refine condK_of (fun c => ?_) (fun c => ?_) <;> (try simp [-List.length_eq_zero_iff] at c))
       | simp (maxSteps := 4000000) (disch := omega) [s10, s11, s15, o1])
      all_goals first
        | omega
        | exact hJ _ (by simp [s11])
end Cal
