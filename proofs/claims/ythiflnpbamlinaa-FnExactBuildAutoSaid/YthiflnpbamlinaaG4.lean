/- A part of the proof: a calculus of our own over the model's code, and contracts of the program's functions. -/
import Derived.WalkKit
import Derived.ProofKit
import Derived.Below
import Derived.Maps.Keyed
import Derived.Test.YthiflnpbamlinaaG2
/- A calculus of our own over the model's code, first part: pure values, how they lie in memory, and that this is kept. No program is named here. -/
namespace Cal
open Go Go.RowKit

/-- A map's key: a number, two, or a string and two. -/
inductive MK where
  | i (n : Int)
  | p (a b : Int)
  | k (s : ByteArray) (a b : Int)
  deriving DecidableEq

def MK.val : MK → Value
  | .i n => .int .i64 n
  | .p a b => .agg #[.int .i64 a, .int .i64 b]
  | .k s a b => .agg #[.string s, .int .i64 a, .int .i64 b]

def MK.kind : MK → Nat
  | .i _ => 0
  | .p .. => 1
  | .k .. => 2

def in64 (n : Int) : Bool := decide (-9223372036854775808 ≤ n ∧ n < 9223372036854775808)

def MK.fine : MK → Bool
  | .i n => in64 n
  | .p a b => in64 a && in64 b
  | .k s a b => decide (s.size ≤ maxLen) && in64 a && in64 b

/-- A pure cell: a value without addresses, or a slice or a map that is only read, ags the list of its elements' cells or of its entries. -/
inductive T where
  | v (x : Value)
  | sl (es : List (List T))
  | mp (kd : Nat) (kvs : List (MK × Value))
  deriving Inhabited

/-- A map's entries, each with a stamp of its own, made ahead of the next. -/
def Stamped (es : Array MapEntry) (c : Nat) : Prop := (∀ x ∈ es.toList, x.born < c) ∧ (es.toList.map (·.born)).Nodup

/-- A map's block. -/
def MapAt (w : World) (b : Nat) (kd : Nat) (ks : List MK) (vs : List Value) : Prop :=
  (∃ es clock, w.heap[b]? = some (.map es clock) ∧ es.toList.map (·.key) = ks.map MK.val ∧ es.toList.map (·.val) = vs ∧ Stamped es clock) ∧ ks.Nodup ∧ ∀ k ∈ ks, k.kind = kd ∧ k.fine = true

theorem MapAt.keep {w w' : World} {b kd : Nat} {ks : List MK} {vs : List Value} (h : MapAt w b kd ks vs) (hb : w'.heap[b]? = w.heap[b]?) : MapAt w' b kd ks vs := by
  obtain ⟨⟨es, c, h1, h2⟩, h3⟩ := h
  exact ⟨⟨es, c, by rw [hb]; exact h1, h2⟩, h3⟩

/-- No address in it, and the value of one cell. -/
def plain : Value → Bool
  | .bool _ | .int _ _ | .string _ | .nilFunc | .nilIface => true
  | .pointer none => true
  | .map none => true
  | .slice none n c => n == 0 && c == 0
  | _ => false

mutual
/-- How a pure cell lies in memory; what it leads to lies in blocks that S has. -/
def Trep (w : World) (S : Nat → Prop) : T → Value → Prop
  | .v x, u => u = x ∧ plain x = true
  | .sl es, u => ∃ A n c, u = .slice A n c ∧ es.length = n ∧ n ≤ c ∧ c ≤ maxLen ∧ (0 < n → ∃ b off sz, A = some ⟨b, off, none⟩ ∧ S b ∧ Ereps w S b off sz es)
  | .mp kd kvs, u => ∃ b, u = .map (some b) ∧ S b ∧ MapAt w b kd (kvs.map (·.1)) (kvs.map (·.2)) ∧ ∀ p ∈ kvs, plain p.2 = true
/-- The elements, sz cells each, from a place in a block on. -/
def Ereps (w : World) (S : Nat → Prop) (b : Nat) : Nat → Nat → List (List T) → Prop
  | _, _, [] => True
  | off, sz, e :: es => e.length = sz ∧ Creps w S b off e ∧ Ereps w S b (off + sz) sz es
/-- The cells, one behind the other. -/
def Creps (w : World) (S : Nat → Prop) (b : Nat) : Nat → List T → Prop
  | _, [] => True
  | off, x :: xs => (∃ u, w.cell? ⟨b, off, none⟩ = some u ∧ Trep w S x u) ∧ Creps w S b (off + 1) xs
end

/-- w' holds what w held in the blocks that S has. -/
def Same (S : Nat → Prop) (w w' : World) : Prop := ∀ b, S b → w'.heap[b]? = w.heap[b]?

theorem Same.refl (S : Nat → Prop) (w : World) : Same S w w := fun _ _ => rfl
theorem Same.trans {S : Nat → Prop} {a b c : World} (h : Same S a b) (k : Same S b c) : Same S a c := fun i hi => (k i hi).trans (h i hi)
theorem Same.mono {S S' : Nat → Prop} {w w' : World} (h : Same S' w w') (hs : ∀ b, S b → S' b) : Same S w w' := fun b hb => h b (hs b hb)

theorem cell_same {w w' : World} {b : Nat} (h : w'.heap[b]? = w.heap[b]?) (off : Nat) : w'.cell? ⟨b, off, none⟩ = w.cell? ⟨b, off, none⟩ := by
  unfold World.cell?
  simp only [h]

mutual
theorem Trep.keep {w w' : World} {S S' : Nat → Prop} (hw : Same S w w') (hs : ∀ b, S b → S' b) : ∀ (x : T) (u : Value), Trep w S x u → Trep w' S' x u
  | .v x, u, h => by unfold Trep at h ⊢; exact h
  | .sl es, u, h => by
    unfold Trep at h ⊢
    obtain ⟨A, n, c, h1, h2, h3, hc, h4⟩ := h
    exact ⟨A, n, c, h1, h2, h3, hc, fun hn => by
      obtain ⟨b, off, sz, e1, e2, e3⟩ := h4 hn
      exact ⟨b, off, sz, e1, hs b e2, Ereps.keep hw hs (hw b e2) off sz es e3⟩⟩
  | .mp kd kvs, u, h => by
    unfold Trep at h ⊢
    obtain ⟨b, h1, h2, h3, h4⟩ := h
    exact ⟨b, h1, hs b h2, h3.keep (hw b h2), h4⟩
theorem Ereps.keep {w w' : World} {S S' : Nat → Prop} (hw : Same S w w') (hs : ∀ b, S b → S' b) {b : Nat} (hb : w'.heap[b]? = w.heap[b]?) : ∀ (off sz : Nat) (es : List (List T)), Ereps w S b off sz es → Ereps w' S' b off sz es
  | _, _, [], _ => by unfold Ereps; trivial
  | off, sz, e :: es, h => by
    unfold Ereps at h ⊢
    exact ⟨h.1, Creps.keep hw hs hb off e h.2.1, Ereps.keep hw hs hb (off + sz) sz es h.2.2⟩
theorem Creps.keep {w w' : World} {S S' : Nat → Prop} (hw : Same S w w') (hs : ∀ b, S b → S' b) {b : Nat} (hb : w'.heap[b]? = w.heap[b]?) : ∀ (off : Nat) (xs : List T), Creps w S b off xs → Creps w' S' b off xs
  | _, [], _ => by unfold Creps; trivial
  | off, x :: xs, h => by
    unfold Creps at h ⊢
    obtain ⟨⟨u, h1, h2⟩, h3⟩ := h
    exact ⟨⟨u, by rw [cell_same hb]; exact h1, Trep.keep hw hs x u h2⟩, Creps.keep hw hs hb (off + 1) xs h3⟩
end

theorem Creps.get {w : World} {S : Nat → Prop} {b : Nat} : ∀ {off : Nat} {xs : List T} (_ : Creps w S b off xs) {j : Nat} {x : T}, xs[j]? = some x → ∃ u, w.cell? ⟨b, off + j, none⟩ = some u ∧ Trep w S x u
  | off, [], _, j, x, hx => by simp at hx
  | off, y :: ys, h, j, x, hx => by
    unfold Creps at h
    cases j with
    | zero => simp at hx; subst hx; exact h.1
    | succ j =>
      have := Creps.get h.2 (j := j) (x := x) (by simpa using hx)
      rw [show off + (j + 1) = off + 1 + j by omega]
      exact this

theorem Creps.drop {w : World} {S : Nat → Prop} {b : Nat} : ∀ {off : Nat} {xs : List T} (_ : Creps w S b off xs) (j : Nat), Creps w S b (off + j) (xs.drop j)
  | off, xs, h, 0 => by simpa using h
  | off, [], _, j + 1 => by simp [Creps]
  | off, x :: xs, h, j + 1 => by
    unfold Creps at h
    have := Creps.drop h.2 j
    rw [show off + (j + 1) = off + 1 + j by omega]
    simpa using this

theorem Creps.take {w : World} {S : Nat → Prop} {b : Nat} : ∀ {off : Nat} {xs : List T} (_ : Creps w S b off xs) (j : Nat), Creps w S b off (xs.take j)
  | off, xs, h, 0 => by simp [Creps]
  | off, [], _, j + 1 => by simp [Creps]
  | off, x :: xs, h, j + 1 => by
    unfold Creps at h
    rw [List.take_succ_cons]; unfold Creps
    exact ⟨h.1, Creps.take h.2 j⟩

theorem Ereps.get {w : World} {S : Nat → Prop} {b : Nat} : ∀ {off sz : Nat} {es : List (List T)} (_ : Ereps w S b off sz es) {i : Nat} {e : List T}, es[i]? = some e → e.length = sz ∧ Creps w S b (off + i * sz) e
  | off, sz, [], _, i, e, he => by simp at he
  | off, sz, f :: es, h, i, e, he => by
    unfold Ereps at h
    cases i with
    | zero => simp at he; subst he; exact ⟨h.1, by simpa using h.2.1⟩
    | succ i =>
      have := Ereps.get h.2.2 (i := i) (e := e) (by simpa using he)
      refine ⟨this.1, ?_⟩
      rw [show off + (i + 1) * sz = off + sz + i * sz by rw [Nat.succ_mul]; omega]
      exact this.2

theorem Ereps.drop {w : World} {S : Nat → Prop} {b : Nat} : ∀ {off sz : Nat} {es : List (List T)} (_ : Ereps w S b off sz es) (i : Nat), Ereps w S b (off + i * sz) sz (es.drop i)
  | off, sz, es, h, 0 => by simpa using h
  | off, sz, [], _, i + 1 => by simp [Ereps]
  | off, sz, e :: es, h, i + 1 => by
    unfold Ereps at h
    have := Ereps.drop h.2.2 i
    rw [show off + (i + 1) * sz = off + sz + i * sz by rw [Nat.succ_mul]; omega]
    simpa using this

theorem Ereps.take {w : World} {S : Nat → Prop} {b : Nat} : ∀ {off sz : Nat} {es : List (List T)} (_ : Ereps w S b off sz es) (i : Nat), Ereps w S b off sz (es.take i)
  | off, sz, es, h, 0 => by simp [Ereps]
  | off, sz, [], _, i + 1 => by simp [Ereps]
  | off, sz, e :: es, h, i + 1 => by
    unfold Ereps at h
    rw [List.take_succ_cons]; unfold Ereps
    exact ⟨h.1, h.2.1, Ereps.take h.2.2 i⟩

theorem Ereps.append {w : World} {S : Nat → Prop} {b : Nat} : ∀ {off sz : Nat} {es fs : List (List T)}, Ereps w S b off sz es → Ereps w S b (off + es.length * sz) sz fs → Ereps w S b off sz (es ++ fs)
  | off, sz, [], fs, _, h => by simpa using h
  | off, sz, e :: es, fs, h, k => by
    unfold Ereps at h
    rw [List.cons_append]; unfold Ereps
    refine ⟨h.1, h.2.1, Ereps.append h.2.2 ?_⟩
    rw [show off + sz + es.length * sz = off + (e :: es).length * sz by simp [Nat.succ_mul]; omega]
    exact k

/-- An abstract value. -/
inductive AV where
  | t (x : T)
  | row (id : Nat × Nat) (sz i n : Nat)
  | ptr (id : Nat × Nat) (i j : Nat)
  | roptr (cs : List T)
  | full (es : List (List T))
  | agg (cs : List AV)
  | tup (vs : List AV)
  | bad
  | mp (id : Nat × Nat)
  | clo (f : Nat) (xs ys : List AV)
  | ifc (t : Nat) (v : AV)
  deriving Inhabited

/-- What the call owns: a variable (its cells), a row (elements of sz cells), a row that is no longer written, a row whose cells name objects, a map, a map that is no longer written. -/
inductive Ob where
  | var (cs : List AV)
  | row (sz : Nat) (es : List (List T))
  | frz (sz : Nat) (es : List (List T))
  | big (sz : Nat) (es : List (List AV))
  | map (kd : Nat) (kvs : List (MK × AV))
  | fmap (kd : Nat) (kvs : List (MK × Value))
  deriving Inhabited

/-- A row's elements: so many cells each, so many. -/
def Ob.ext : Ob → Option (Nat × Nat)
  | .row sz es => some (sz, es.length)
  | .frz sz es => some (sz, es.length)
  | .big sz es => some (sz, es.length)
  | _ => none

/-- The cells that may name objects. -/
def Ob.avs : Ob → List AV
  | .var cs => cs
  | .big _ es => es.flatten
  | .map _ kvs => kvs.map (·.2)
  | _ => []

/-- No longer written. -/
def Ob.cold : Ob → Bool
  | .frz .. => true
  | .fmap .. => true
  | _ => false

/-- What stays of an object while it is written. -/
def Ob.shape : Ob → Nat × Nat × Nat
  | .var cs => (0, cs.length, 0)
  | .row sz es => (1, sz, es.length)
  | .frz sz es => (1, sz, es.length)
  | .big sz es => (1, sz, es.length)
  | .map kd _ => (2, kd, 0)
  | .fmap kd _ => (2, kd, 0)

abbrev Id := Nat × Nat

/-- Temporaries, objects, and what the frames further out hold. -/
structure St where
  tm : Nat → AV
  ob : Id → Option Ob
  gh : Nat → AV

end Cal

/- A calculus of our own over the model's code, second part: what each operation does to pure values (the evaluator). No program is named here. -/
namespace Cal
open Go Go.RowKit

/-- What is asked of a type. -/
structure TI where
  agg : Bool
  size : Nat
  bytes : Nat
  zero : List Value

def isAggB : TypeDesc → Bool
  | .struct _ | .array _ _ => true
  | _ => false

def tinf (P : Program) (t : TypeId) : Option TI :=
  match P.info? t, P.underlying t with
  | some i, some d => match i.zero with
    | some z => some ⟨isAggB d, i.size, i.bytes, z.cells.toList⟩
    | none => none
  | _, _ => none

/-- Where a field begins, and its type's number of cells; is it an aggregate. -/
def foff (P : Program) (t : TypeId) (f : Nat) : Option (Nat × Nat × Bool) :=
  match P.underlying t with
  | some (.struct fs) => match fs[f]? with
    | some fd => match tinf P fd.type with
      | some i => some (fd.offset, i.size, i.agg)
      | none => none
    | none => none
  | _ => none

def AV.cells : AV → List AV
  | .agg cs => cs
  | v => [v]

/-- The value of one cell, and known. -/
def AV.one : AV → Bool
  | .t _ | .row .. | .ptr .. | .mp _ | .clo .. | .ifc .. => true
  | _ => false

/-- It names something that is no slice and no map. -/
def AV.ref : AV → Bool
  | .ptr .. | .clo .. | .ifc .. => true
  | _ => false

def cst (x : Value) : AV :=
  match x with
  | .agg cs => if cs.all plain then .agg (cs.toList.map fun u => .t (.v u)) else .bad
  | u => if plain u then .t (.v u) else .bad

def St.ev (s : St) : Operand → AV
  | .tmp t => s.tm t
  | .const x => cst x
  | _ => .bad

def St.put (s : St) (d : Option Nat) (v : AV) : St :=
  match d with
  | some t => { s with tm := fun u => if u = t then v else s.tm u }
  | none => s

def St.setOb (s : St) (id : Id) (o : Option Ob) : St := { s with ob := fun i => if i = id then o else s.ob i }

def St.eff (s : St) : List (Id × Option Ob) → St
  | [] => s
  | (id, o) :: l => (s.setOb id o).eff l

abbrev Eff := List (Id × Option Ob)

/-- The window of a row. -/
def window (es : List (List T)) (i n : Nat) : List (List T) := (es.drop i).take n

/-- Values of entries without addresses. -/
def flatVals : List (MK × AV) → Option (List (MK × Value))
  | [] => some []
  | (k, .t (.v x)) :: l => (flatVals l).map fun r => (k, x) :: r
  | _ => none

/-- As a pure cell, and the rows that are no longer written from then on. -/
def St.toT (s : St) : AV → Option T
  | .t x => some x
  | .row id _ i n => match s.ob id with
    | some (.row _ es) => some (.sl (window es i n))
    | some (.frz _ es) => some (.sl (window es i n))
    | _ => none
  | .mp id => match s.ob id with
    | some (.map kd kvs) => (flatVals kvs).map (.mp kd)
    | some (.fmap kd kvs) => some (.mp kd kvs)
    | _ => none
  | _ => none

def St.frzEff (s : St) : AV → List (Id × Option Ob)
  | .row id _ _ _ => match s.ob id with
    | some (.row sz es) => [(id, some (.frz sz es))]
    | _ => []
  | .mp id => match s.ob id with
    | some (.map kd kvs) => match flatVals kvs with
      | some r => [(id, some (.fmap kd r))]
      | none => []
    | _ => []
  | _ => []

def St.toTs (s : St) : List AV → Option (List T)
  | [] => some []
  | v :: vs => match s.toT v, s.toTs vs with
    | some x, some xs => some (x :: xs)
    | _, _ => none

def St.frzEffs (s : St) : List AV → List (Id × Option Ob)
  | [] => []
  | v :: vs => s.frzEff v ++ s.frzEffs vs



/-- Int operations, ags they stand in the model. -/
def solid : Option TypeDesc → Bool
  | some (.interface _) => false
  | some _ => true
  | none => false
/-- What an interface holds, if it is of this type. -/
def assertA (s : Bool) (u : Nat) : AV → Option AV
  | .ifc t v => if t = u ∧ s = true then some v else none
  | _ => none
def isBoolT : Option TypeDesc → Bool
  | some .bool => true
  | _ => false

/-- Operations of two values. -/
def binV (op : BinOp) (ty : Bool) (x y : Value) : Option Value :=
  match x, y with
  | .int k a, .int k' b => if k = k' then
      match op with
      | .add => some (.int k (k.wrap (a + b)))
      | .sub => some (.int k (k.wrap (a - b)))
      | .mul => some (.int k (k.wrap (a * b)))
      | .quo => if b = 0 then none else some (.int k (k.wrap (a.tdiv b)))
      | .rem => if b = 0 then none else some (.int k (a.tmod b))
      | .eql => some (.bool (a == b))
      | .neq => some (.bool (a != b))
      | .lss => some (.bool (a < b))
      | .leq => some (.bool (a ≤ b))
      | .gtr => some (.bool (a > b))
      | .geq => some (.bool (a ≥ b))
      | _ => none
    else none
  | .string a, .string b =>
      match op with
      | .add => if (((a.size + b.size : Nat) : Int) > IntKind.i64.max) then none else some (.string (a ++ b))
      | .eql => some (.bool (a.toList == b.toList))
      | .neq => some (.bool !(a.toList == b.toList))
      | _ => none
  | .bool a, .bool b => if ty = true then
      match op with
      | .eql => some (.bool (a == b))
      | .neq => some (.bool !(a == b))
      | _ => none
    else none
  | _, _ => none

def unV (op : UnOp) (x : Value) : Option Value :=
  match op, x with
  | .not, .bool b => some (.bool !b)
  | .neg, .int k n => some (.int k (k.wrap (0 - n)))
  | _, _ => none

/-- Cells put in from a place on. -/
def over (cs : List AV) (off : Nat) (ns : List AV) : List AV := cs.take off ++ ns ++ cs.drop (off + ns.length)
def overT (cs : List T) (off : Nat) (ns : List T) : List T := cs.take off ++ ns ++ cs.drop (off + ns.length)

def asOne (agg : Bool) (cs : List AV) : Option AV :=
  if agg then some (.agg cs) else match cs with
    | [c] => some c
    | _ => none

def fillA (P : Program) (t : TypeId) (st : St) (zero : List AV) : List (Nat × Operand) → Option (List AV)
  | [] => some zero
  | (i, x) :: l => match foff P t i with
    | some (off, size, _) => if (st.ev x).cells.length = size ∧ off + size ≤ zero.length ∧ (st.ev x).cells.all AV.one then fillA P t st (over zero off (st.ev x).cells) l else none
    | none => none

/-- The elements of a slice literal, each given. -/
def litA (st : St) (size : Nat) : Nat → List (Nat × Operand) → Option (List (List T) × Eff)
  | _, [] => some ([], [])
  | k, (i, x) :: l => if i = k ∧ (st.ev x).cells.length = size then
      match st.toTs (st.ev x).cells, litA st size (k + 1) l with
      | some e, some (es, f) => some (e :: es, st.frzEffs (st.ev x).cells ++ f)
      | _, _ => none
    else none

def loadA (st : St) (agg : Bool) (size : Nat) : AV → Option AV
  | .ptr id i j => match st.ob id with
    | some (.var cs) => if i = 0 ∧ j + size ≤ cs.length then asOne agg ((cs.drop j).take size) else none
    | some (.row _ es) | some (.frz _ es) => match es[i]? with
      | some e => if j + size ≤ e.length then asOne agg (((e.drop j).take size).map .t) else none
      | none => none
    | some (.big _ es) => match es[i]? with
      | some e => if j + size ≤ e.length then asOne agg ((e.drop j).take size) else none
      | none => none
    | _ => none
  | .roptr cs => if size ≤ cs.length then asOne agg ((cs.take size).map .t) else none
  | _ => none

def noRow (id : Id) : List AV → Bool
  | [] => true
  | .row id' _ _ _ :: l => id' != id && noRow id l
  | .mp id' :: l => id' != id && noRow id l
  | _ :: l => noRow id l

def storeA (st : St) (size : Nat) (x : AV) : AV → Option Eff
  | .ptr id i j => if x.cells.length = size ∧ x.cells.all AV.one then match st.ob id with
    | some (.var cs) => if i = 0 ∧ j + size ≤ cs.length then some [(id, some (.var (over cs j x.cells)))] else none
    | some (.row sz es) => match es[i]?, st.toTs x.cells with
      | some e, some xs => if j + size ≤ e.length ∧ noRow id x.cells = true then some (st.frzEffs x.cells ++ [(id, some (.row sz (es.set i (overT e j xs))))]) else none
      | _, _ => none
    | some (.big sz es) => match es[i]? with
      | some e => if j + size ≤ e.length then some [(id, some (.big sz (es.set i (over e j x.cells))))] else none
      | none => none
    | _ => none
    else none
  | _ => none

/-- The limit of a row's bytes. -/
def lim : Nat := 140737488355328


/-- All elements have so many cells. -/
def szOK (size : Nat) (es : List (List T)) : Bool := es.all fun e => e.length == size

/-- What a slice's elements are, ags far ags it may be read. -/
def elemsA (st : St) (size : Nat) : AV → Option (List (List T))
  | .t (.v (.slice none 0 0)) => some []
  | .t (.sl es) => if szOK size es = true then some es else none
  | .row id sz i n => if sz = size then match st.ob id with
    | some (.row _ es) | some (.frz _ es) => some (window es i n)
    | _ => none
    else none
  | _ => none

/-- What an append asks of the elements' type. -/
def TI.fine (i : TI) : Bool := i.zero.length == i.size && decide (0 < i.size) && decide (0 < i.bytes)

def appendA (d : Nat) (st : St) (i : TI) (s : AV) (es : List (List T)) : Option (AV × Eff) :=
  if i.fine = false then none else match s with
  | .t (.v (.slice none 0 0)) => if es.length * i.bytes ≤ lim then some (if es.length = 0 then (.t (.v (.slice none 0 0)), []) else (.row (d, 0) i.size 0 es.length, [((d, 0), some (.row i.size es))])) else none
  | .row id _ 0 n => match st.ob id with
    | some (.row sz fs) => if sz = i.size ∧ n = fs.length ∧ (n + es.length) * i.bytes ≤ lim then some (.row (d, 0) sz 0 (n + es.length), [(id, none), ((d, 0), some (.row sz (fs ++ es)))]) else none
    | _ => none
  | _ => none

/-- A string's bytes, as elements. -/
def strE (s : ByteArray) : List (List T) := s.data.toList.map fun b => [.v (.int .u8 (b.toNat : Int))]
/-- Elements that are bytes. -/
def bytesOf : List (List T) → Option (List UInt8)
  | [] => some []
  | [.v (.int .u8 n)] :: es => (bytesOf es).map (UInt8.ofNat n.toNat :: ·)
  | _ => none
def isU8T : Option TypeDesc → Bool
  | some (.int .u8) => true
  | _ => false
def isStrT : Option TypeDesc → Bool
  | some .string => true
  | _ => false
/-- A string appended. -/
def appendS (d : Nat) (st : St) (i : TI) (x y : AV) : Option (AV × Eff) :=
  match y with
  | .t (.v (.string s)) => if i.size = 1 ∧ i.bytes = 1 ∧ i.fine = true then match x with
      | .full es => if s.size ≠ 0 ∧ es.length + s.size ≤ lim then some (.row (d, 0) 1 0 (es.length + s.size), [((d, 0), some (.row 1 (es ++ strE s)))]) else none
      | .row id _ 0 n => match st.ob id with
        | some (.row sz fs) => if sz = 1 ∧ n = fs.length ∧ n + s.size ≤ lim then some (.row (d, 0) 1 0 (n + s.size), [(id, none), ((d, 0), some (.row 1 (fs ++ strE s)))]) else none
        | _ => none
      | _ => none
    else none
  | _ => none

def windowB (es : List (List AV)) (i n : Nat) : List (List AV) := (es.drop i).take n

/-- A row whose cells name objects. -/
def isBig (st : St) : AV → Bool
  | .row id _ _ _ => match st.ob id with
    | some (.big ..) => true
    | _ => false
  | _ => false

/-- What a slice's elements are, ags cells that may name objects. -/
def elemsB (st : St) (size : Nat) (y : AV) : Option (List (List AV)) :=
  match y with
  | .row id sz i n => match st.ob id with
    | some (.big _ es) => if sz = size then some (windowB es i n) else none
    | _ => (elemsA st size y).map fun es => es.map fun e => e.map .t
  | _ => (elemsA st size y).map fun es => es.map fun e => e.map .t

def appendB (d : Nat) (st : St) (i : TI) (s : AV) (es : List (List AV)) : Option (AV × Eff) :=
  if i.fine = false then none else match s with
  | .t (.v (.slice none 0 0)) => if es.length * i.bytes ≤ lim ∧ es.length ≠ 0 then some (.row (d, 0) i.size 0 es.length, [((d, 0), some (.big i.size es))]) else none
  | .row id _ 0 n => match st.ob id with
    | some (.big sz fs) => if sz = i.size ∧ n ≤ fs.length ∧ (n + es.length) * i.bytes ≤ lim then some (.row (d, 0) sz 0 (n + es.length), [(id, none), ((d, 0), some (.big sz (fs.take n ++ es)))]) else none
    | _ => none
  | _ => none

def appendO (d : Nat) (st : St) (i : TI) (x y : AV) : Option (AV × Eff) :=
  if (isBig st x || isBig st y) = true then (elemsB st i.size y).bind fun es => appendB d st i x es
  else (elemsA st i.size y).bind fun es => appendA d st i x es

/-- The elements of a slice literal that names objects. -/
def litB (st : St) (size : Nat) : Nat → List (Nat × Operand) → Option (List (List AV))
  | _, [] => some []
  | k, (i, x) :: l => if i = k ∧ (st.ev x).cells.length = size ∧ (st.ev x).cells.all AV.one = true then (litB st size (k + 1) l).map fun es => (st.ev x).cells :: es else none

def litRef (st : St) (parts : List (Nat × Operand)) : Bool := parts.any fun p => (st.ev p.2).cells.any AV.ref

/-! ### maps -/
/-- What is asked of a map's type: its key's type, its keys' kind, the null of its values. -/
structure MI where
  kt : TypeId
  kd : Nat
  zero : Value

def keyKind (P : Program) (kt : TypeId) : Option Nat :=
  match P.underlying kt with
  | some (.int .i64) => some 0
  | some (.array 2 _) => some 1
  | some (.struct fs) => if fs.size = 2 then some 1 else if fs.size = 3 then some 2 else none
  | _ => none

def minf0 (P : Program) (t : TypeId) : Option MI :=
  match P.underlying t with
  | some (.map kt e) => match keyKind P kt, tinf P e, (P.info? e).bind (·.zero) with
    | some kd, some i, some z => if i.agg = false ∧ plain z = true then some ⟨kt, kd, z⟩ else none
    | _, _, _ => none
  | _ => none

/-- The model's own laws hold of the map's keys. -/
def MapGood (P : Program) (t : TypeId) : Prop := ∀ mi, minf0 P t = some mi → Maps.Keyed P mi.kt ∧ ∀ k : MK, k.kind = mi.kd → k.fine = true → (keyOf P mi.kt k.val).isSome = true

open Classical in
noncomputable def minf (P : Program) (t : TypeId) : Option MI := if MapGood P t then minf0 P t else none

/-- A value ags a key. -/
def keyA (kd : Nat) (v : AV) : Option MK :=
  match kd, v with
  | 0, .t (.v (.int .i64 n)) => if in64 n = true then some (.i n) else none
  | 1, .agg [.t (.v (.int .i64 a)), .t (.v (.int .i64 b))] => if (in64 a && in64 b) = true then some (.p a b) else none
  | 2, .agg [.t (.v (.string s)), .t (.v (.int .i64 a)), .t (.v (.int .i64 b))] => if (decide (s.size ≤ maxLen) && in64 a && in64 b) = true then some (.k s a b) else none
  | _, _ => none

def mget {α : Type} (kvs : List (MK × α)) (k : MK) : Option α :=
  match kvs with
  | [] => none
  | (k', v) :: l => if k' = k then some v else mget l k

def mset {α : Type} (kvs : List (MK × α)) (k : MK) (v : α) : List (MK × α) :=
  match kvs with
  | [] => [(k, v)]
  | (k', v') :: l => if k' = k then (k, v) :: l else (k', v') :: mset l k v

/-- What a lookup gives: the value, or the null. -/
def lookR (ok : Bool) (z : Value) (o : Option AV) : AV :=
  if ok = true then .tup [o.getD (.t (.v z)), .t (.v (.bool o.isSome))] else o.getD (.t (.v z))

def lookA (st : St) (mi : Option MI) (ok : Bool) (x k : AV) : Option (AV × Eff) :=
  match mi with
  | none => none
  | some mi => match keyA mi.kd k with
    | none => none
    | some k => match x with
      | .t (.v (.map none)) => some (lookR ok mi.zero none, [])
      | .t (.mp kd kvs) => if kd = mi.kd then some (lookR ok mi.zero ((mget kvs k).map fun x => .t (.v x)), []) else none
      | .mp id => match st.ob id with
        | some (.map kd kvs) => if kd = mi.kd then some (lookR ok mi.zero (mget kvs k), []) else none
        | some (.fmap kd kvs) => if kd = mi.kd then some (lookR ok mi.zero ((mget kvs k).map fun x => .t (.v x)), []) else none
        | _ => none
      | _ => none

def mupA (st : St) (mi : Option MI) (x k v : AV) : Option Eff :=
  match mi with
  | none => none
  | some mi => match keyA mi.kd k with
    | none => none
    | some k => match x with
      | .mp id => match st.ob id with
        | some (.map kd kvs) => if kd = mi.kd ∧ v.one = true then some [(id, some (.map kd (mset kvs k v)))] else none
        | _ => none
      | _ => none

def elemOf (P : Program) (t : TypeId) : Option (TypeId × TI) :=
  match P.underlying t with
  | some (.slice e) => (tinf P e).map fun i => (e, i)
  | _ => none

def intA : AV → Option Int
  | .t (.v (.int _ n)) => some n
  | _ => none

def indexAddrA (el : Option (TypeId × TI)) (x : AV) (n : Int) : Option AV :=
  match el, x with
  | some (_, i), .t (.sl es) => if 0 ≤ n then match es[n.toNat]? with
      | some e => if i.size = e.length then some (.roptr e) else none
      | none => none
    else none
  | some (_, i), .row id sz r k => if sz = i.size ∧ 0 ≤ n ∧ n.toNat < k then some (.ptr id (r + n.toNat) 0) else none
  | _, _ => none

/-- What a type is: a string's; a slice's, its elements so many cells. -/
inductive TK where
  | str
  | sl (size : Nat)
  | no

def tkind (P : Program) (t : TypeId) : TK :=
  match P.underlying t with
  | some .string => .str
  | some (.slice e) => match tinf P e with
    | some i => .sl i.size
    | none => .no
  | _ => .no

def sliceA (k : TK) (x : AV) (lo hi : Option Int) : Option AV :=
  match k, x with
  | .str, .t (.v (.string s)) => if 0 ≤ lo.getD 0 ∧ lo.getD 0 ≤ hi.getD s.size ∧ hi.getD s.size ≤ s.size then some (.t (.v (.string (s.extract (lo.getD 0).toNat (hi.getD s.size).toNat)))) else none
  | .sl size, .t (.sl es) => if szOK size es = true ∧ 0 ≤ lo.getD 0 ∧ lo.getD 0 ≤ hi.getD es.length ∧ hi.getD es.length ≤ es.length then some (.t (.sl (window es (lo.getD 0).toNat (hi.getD es.length - lo.getD 0).toNat))) else none
  | .sl size, .row id sz i n => if size = sz ∧ 0 ≤ lo.getD 0 ∧ lo.getD 0 ≤ hi.getD n ∧ hi.getD n ≤ n then some (.row id sz (i + (lo.getD 0).toNat) (hi.getD n - lo.getD 0).toNat) else none
  | _, _ => none

def lenA (k : TK) (x : AV) : Option Nat :=
  match k, x with
  | .str, .t (.v (.string s)) => some s.size
  | .sl _, .t (.v (.slice none 0 0)) => some 0
  | .sl _, .t (.sl es) => some es.length
  | .sl _, .row _ _ _ n => some n
  | _, _ => none

def pickA (c a b : AV) : Option (AV × Eff) :=
  match c with
  | .t (.v (.bool t)) => some (if t = true then a else b, [])
  | _ => none

def nilA : AV → Option (AV × Eff)
  | .ptr id i j => some (.ptr id i j, [])
  | .roptr cs => some (.roptr cs, [])
  | _ => none

def binA (op : BinOp) (ty : Bool) (x y : AV) : Option (AV × Eff) :=
  match x, y with
  | .t (.v a), .t (.v b) => (binV op ty a b).map fun u => (.t (.v u), [])
  | _, _ => none

/-- Is it a pointer's type? -/
def isPtrT : Option TypeDesc → Bool
  | some (.pointer _) => true
  | _ => false
/-- Alike or not, as the operation asks. -/
def eqlA (op : BinOp) (b : Bool) : Option (AV × Eff) :=
  match op with
  | .eql => some (.t (.v (.bool b)), [])
  | .neq => some (.t (.v (.bool !b)), [])
  | _ => none
/-- Two values; a pointer and nil. -/
def binP (pt : Bool) (op : BinOp) (ty : Bool) (x y : AV) : Option (AV × Eff) :=
  match x, y with
  | .ptr _ _ _, .t (.v (.pointer none)) => if pt = true then eqlA op false else none
  | .t (.v (.pointer none)), .t (.v (.pointer none)) => if pt = true then eqlA op true else none
  | x, y => binA op ty x y

def unA (op : UnOp) (x : AV) : Option (AV × Eff) :=
  match x with
  | .t (.v a) => (unV op a).map fun u => (.t (.v u), [])
  | _ => none

def convA (t : Option TypeDesc) (x : AV) : Option (AV × Eff) :=
  match t, x with
  | some (.int k), .t (.v (.int _ n)) => some (.t (.v (.int k (k.wrap n))), [])
  | _, _ => none

/-- What a conversion is of: bytes to a string, or another. -/
def convK (P : Program) (src dst : TypeId) : Option Bool :=
  match P.underlying src, P.underlying dst with
  | some (.slice e), some .string => if isU8T (P.underlying e) = true then some true else none
  | some _, _ => some false
  | none, _ => none
def convS (st : St) (x : AV) : Option (AV × Eff) := (elemsA st 1 x).bind fun es => (bytesOf es).map fun l => (.t (.v (.string ⟨l.toArray⟩)), [])

def sliceO (k : TK) (x : AV) (lo hi : Option (Option Int)) : Option (AV × Eff) :=
  match lo, hi with
  | some none, _ | _, some none => none
  | l, h => (sliceA k x (l.bind id) (h.bind id)).map fun v => (v, [])

def fieldAddrA (f : Option (Nat × Nat × Bool)) (x : AV) : Option (AV × Eff) :=
  match f, x with
  | some (off, size, _), .ptr id i j => if 0 < size then some (.ptr id i (j + off), []) else none
  | some (off, size, _), .roptr cs => if 0 < size ∧ off < cs.length then some (.roptr (cs.drop off), []) else none
  | _, _ => none

def fieldA (f : Option (Nat × Nat × Bool)) (x : AV) : Option (AV × Eff) :=
  match f, x with
  | some (off, size, agg), .agg cs => if off + size ≤ cs.length then (asOne agg ((cs.drop off).take size)).map fun v => (v, []) else none
  | _, _ => none

def indexAddrO (el : Option (TypeId × TI)) (x ix : AV) : Option (AV × Eff) :=
  match ix with
  | .t (.v (.int _ n)) => (indexAddrA el x n).map fun v => (v, [])
  | _ => none

def indexA (k : TK) (x ix : AV) : Option (AV × Eff) :=
  match k, x, ix with
  | .str, .t (.v (.string s)), .t (.v (.int _ n)) => if 0 ≤ n then match s[n.toNat]? with
      | some b => some (.t (.v (.int .u8 b.toNat)), [])
      | none => none
    else none
  | _, _, _ => none

def extractA (x : AV) (i : Nat) : Option (AV × Eff) :=
  match x with
  | .tup vs => match vs[i]? with
    | some v => some (v, [])
    | none => none
  | _ => none

/-- A struct type, its fields' sizes known. -/
def okStruct (P : Program) (t : TypeId) : Bool :=
  match P.underlying t with
  | some (.struct fs) => (fs.toList.mapM fun f => (P.info? f.type).map fun i => (f.offset, i.size)).isSome
  | _ => false

/-- A slice made: so many elements, all null. -/
def makeA (d : Nat) (el : Option (TypeId × TI)) (n c : AV) : Option (AV × Eff) :=
  match el, n, c with
  | some (_, i), .t (.v (.int .i64 n)), .t (.v (.int .i64 c)) => if i.fine = true ∧ i.zero.all plain = true ∧ 0 ≤ n ∧ n ≤ c ∧ c.toNat * i.bytes ≤ lim then
      some (.row (d, 0) i.size 0 n.toNat, [((d, 0), some (.row i.size (List.replicate n.toNat (i.zero.map .v))))]) else none
  | _, _, _ => none

/-- Calls of what is built in. -/
def callA (P : Program) (d : Nat) (st : St) : Builtin → List Operand → List TypeId → Option (AV × Eff)
  | .len, [x], [t] => (lenA (tkind P t) (st.ev x)).map fun n => (.t (.v (.int .i64 n)), [])
  | .append, [x, y], [t, t2] => if t = t2 then (elemOf P t).bind fun ei => appendO d st ei.2 (st.ev x) (st.ev y) else if isStrT (P.underlying t2) = true then (elemOf P t).bind fun ei => appendS d st ei.2 (st.ev x) (st.ev y) else none
  | _, _, _ => none

/-- Operations without calls of Go functions. -/
noncomputable def evOp (P : Program) (d : Nat) (st : St) : Op → Option (AV × Eff)
  | .move x | .assign x => some (st.ev x, [])
  | .pick c a b => pickA (st.ev c) (st.ev a) (st.ev b)
  | .alloc t => (tinf P t).bind fun i => if i.zero.all plain then some (.ptr (d, 0) 0 0, [((d, 0), some (.var (i.zero.map fun x => .t (.v x))))]) else none
  | .box _ x => if (st.ev x).cells.all AV.one then some (.ptr (d, 0) 0 0, [((d, 0), some (.var (st.ev x).cells))]) else none
  | .build t parts => (tinf P t).bind fun i => if okStruct P t = true ∧ i.zero.all plain = true then (fillA P t st (i.zero.map fun x => .t (.v x)) parts.toList).map fun cs => (.agg cs, []) else none
  | .buildSlice t len parts => (elemOf P t).bind fun ei => if ei.2.fine = true ∧ len = parts.size ∧ len * ei.2.size ≤ 16777216 then (if litRef st parts.toList = true then (litB st ei.2.size 0 parts.toList).map fun es => (.row (d, 0) ei.2.size 0 len, [((d, 0), some (.big ei.2.size es))]) else (litA st ei.2.size 0 parts.toList).map fun r => (.row (d, 0) ei.2.size 0 len, r.2 ++ [((d, 0), some (.row ei.2.size r.1))])) else none
  | .makeSlice t x y => makeA d (elemOf P t) (st.ev x) (st.ev y)
  | .load t a => (tinf P t).bind fun i => (loadA st i.agg i.size (st.ev a)).map fun v => (v, [])
  | .store t a x => (tinf P t).bind fun i => (storeA st i.size (st.ev x) (st.ev a)).map fun f => (.bad, f)
  | .nilCheck x => nilA (st.ev x)
  | .binOp op t x y _ => binP (isPtrT (P.underlying t)) op (isBoolT (P.underlying t)) (st.ev x) (st.ev y)
  | .unOp op _ x => unA op (st.ev x)
  | .convert src dst x => match convK P src dst with
    | some false => convA (P.underlying dst) (st.ev x)
    | some true => convS st (st.ev x)
    | none => none
  | .slice t x lo hi none => sliceO (tkind P t) (st.ev x) (lo.map fun o => intA (st.ev o)) (hi.map fun o => intA (st.ev o))
  | .fieldAddr s x f => fieldAddrA (foff P s f) (st.ev x)
  | .field s x f => fieldA (foff P s f) (st.ev x)
  | .indexAddr t x ix => indexAddrO (elemOf P t) (st.ev x) (st.ev ix)
  | .index t x ix => indexA (tkind P t) (st.ev x) (st.ev ix)
  | .extract x i => extractA (st.ev x) i
  | .makeMap t none => (minf P t).bind fun mi => some (.mp (d, 0), [((d, 0), some (.map mi.kd []))])
  | .lookup t x k ok => lookA st (minf P t) ok (st.ev x) (st.ev k)
  | .mapUpdate t x k v => (mupA st (minf P t) (st.ev x) (st.ev k) (st.ev v)).map fun f => (.bad, f)
  | .makeFunc (.func f) xs ys => some (.clo f (xs.toList.map st.ev) (ys.toList.map st.ev), [])
  | .makeInterface t x => if solid (P.underlying t) = true then some (.ifc t (st.ev x), []) else none
  | .typeAssert x _ u false => (assertA (solid (P.underlying u)) u (st.ev x)).map fun v => (v, [])
  | .call { callee := .builtin b, args := xs, argTypes := ts } => callA P d st b xs.toList ts.toList
  | _ => none

/-- What is handed to a Go function. -/
inductive Arg where
  | val (x : T)
  | agg (xs : List T)
  | mrow (sz : Nat) (es : List (List T))
  | mvar (cs : List T)
  deriving Inhabited

/-- What comes back: own rows are new, and written on by whoever called. -/
inductive RV where
  | t (x : T)
  | own (sz : Nat) (es : List (List T))
  | agg (cs : List RV)
  | tup (vs : List RV)
  | map (kd : Nat) (kvs : List (MK × Value))
  | var (cs : List T)
  deriving Inhabited

def St.arg (s : St) (v : AV) (a : Arg) : Prop :=
  match a with
  | .val x => s.toT v = some x
  | .agg xs => ∃ cs, v = .agg cs ∧ s.toTs cs = some xs
  | .mrow sz es => ∃ id, v = .row id sz 0 es.length ∧ s.ob id = some (.row sz es)
  | .mvar cs => ∃ id, v = .ptr id 0 0 ∧ s.ob id = some (.var (cs.map .t))

def St.args (s : St) : List AV → List Arg → Prop
  | [], [] => True
  | v :: vs, a :: ags => s.arg v a ∧ s.args vs ags
  | _, _ => False

/-- A row's cells as pure cells. -/
def St.toTss (s : St) : List (List AV) → Option (List (List T))
  | [] => some []
  | e :: es => match s.toTs e, s.toTss es with
    | some x, some xs => some (x :: xs)
    | _, _ => none

/-- As a pure cell, for reading alone: a row's cells may name rows. -/
def St.toTR (s : St) (v : AV) : Option T :=
  match s.toT v with
  | some x => some x
  | none => match v with
    | .row id _ i n => match s.ob id with
      | some (.big _ es) => (s.toTss es).map fun xs => .sl (window xs i n)
      | _ => none
    | _ => none
def St.toTRs (s : St) : List AV → Option (List T)
  | [] => some []
  | v :: vs => match s.toTR v, s.toTRs vs with
    | some x, some xs => some (x :: xs)
    | _, _ => none
def St.argR (s : St) (v : AV) (a : Arg) : Prop :=
  match a with
  | .val x => s.toTR v = some x
  | .agg xs => ∃ cs, v = .agg cs ∧ s.toTRs cs = some xs
  | _ => False
def St.argsR (s : St) : List AV → List Arg → Prop
  | [], [] => True
  | v :: vs, a :: ags => s.argR v a ∧ s.argsR vs ags
  | _, _ => False
def ArgsOk (s : St) (vs : List AV) (ags : List Arg) (keep : Bool) : Prop := s.args vs ags ∨ (keep = true ∧ s.argsR vs ags)

end Cal

/- A calculus of our own over the model's code, third part: calls, regions, code: what is to be shown of pure states (the logic). No program is named here. -/
namespace Cal
open Go Go.RowKit

/-! ### what a call of a Go function says -/

def OwnRow (w : World) (S : Nat → Prop) (b sz : Nat) (es : List (List T)) (cap : Nat) : Prop :=
  (∃ arr ty, w.heap[b]? = some (.cells arr ty (0, 0)) ∧ arr.size = cap * sz) ∧ es.length ≤ cap ∧ cap ≤ maxLen ∧ Ereps w S b 0 sz es

def OwnCells (w : World) (S : Nat → Prop) (b : Nat) (cs : List T) : Prop :=
  (∃ arr ty, w.heap[b]? = some (.cells arr ty (0, 0)) ∧ arr.size = cs.length) ∧ Creps w S b 0 cs

def Treps (w : World) (S : Nat → Prop) : List T → List Value → Prop
  | [], [] => True
  | x :: xs, u :: us => Trep w S x u ∧ Treps w S xs us
  | _, _ => False

mutual
/-- A result in memory; bs: the blocks that it owns. -/
def RVrep (w : World) (S : Nat → Prop) : RV → Value → List Nat → Prop
  | .t x, u, bs => bs = [] ∧ Trep w S x u
  | .own sz es, u, bs => ∃ b c, bs = [b] ∧ u = .slice (some ⟨b, 0, none⟩) es.length c ∧ OwnRow w S b sz es c
  | .agg cs, u, bs => ∃ us : List Value, u = .agg us.toArray ∧ RVreps w S cs us bs
  | .tup cs, u, bs => ∃ us : List Value, u = .tuple us.toArray ∧ RVreps w S cs us bs
  | .var cs, u, bs => ∃ b, bs = [b] ∧ u = .pointer (some ⟨b, 0, none⟩) ∧ OwnCells w S b cs
  | .map kd kvs, u, bs => ∃ b, bs = [b] ∧ u = .map (some b) ∧ MapAt w b kd (kvs.map (·.1)) (kvs.map (·.2)) ∧ ∀ p ∈ kvs, plain p.2 = true
def RVreps (w : World) (S : Nat → Prop) : List RV → List Value → List Nat → Prop
  | [], us, bs => us = [] ∧ bs = []
  | r :: rs, us, bs => ∃ u us' b1 b2, us = u :: us' ∧ bs = b1 ++ b2 ∧ RVrep w S r u b1 ∧ RVreps w S rs us' b2
end

def ArgRep (w : World) (S : Nat → Prop) : Arg → Value → List (Nat × Nat) → Prop
  | .val x, u, ab => ab = [] ∧ Trep w S x u
  | .agg xs, u, ab => ab = [] ∧ ∃ us : List Value, u = .agg us.toArray ∧ Treps w S xs us
  | .mrow sz es, u, ab => ∃ b c, ab = [(b, c)] ∧ u = .slice (some ⟨b, 0, none⟩) es.length c ∧ OwnRow w S b sz es c ∧ ¬ S b
  | .mvar cs, u, ab => ∃ b, ab = [(b, 0)] ∧ u = .pointer (some ⟨b, 0, none⟩) ∧ OwnCells w S b cs ∧ ¬ S b

def ArgsRep (w : World) (S : Nat → Prop) : List Arg → List Value → List (Nat × Nat) → Prop
  | [], us, ab => us = [] ∧ ab = []
  | a :: ags, us, ab => ∃ u us' b1 b2, us = u :: us' ∧ ab = b1 ++ b2 ∧ ArgRep w S a u b1 ∧ ArgsRep w S ags us' b2

/-- What an argument's own block holds behind the call. -/
def OutRep (w : World) (S : Nat → Prop) (b : Nat × Nat) : Option Arg → Prop
  | none => True
  | some (.mrow sz es) => OwnRow w S b.1 sz es b.2 ∧ ¬ S b.1
  | some (.mvar cs) => OwnCells w S b.1 cs ∧ ¬ S b.1
  | some _ => False

def OutReps (w : World) (S : Nat → Prop) : List (Nat × Nat) → List (Option Arg) → Prop
  | [], [] => True
  | b :: bs, o :: os => OutRep w S b o ∧ OutReps w S bs os
  | _, _ => False

/-- The blocks of the arguments that still are the caller's. -/
def liveOuts : List (Nat × Nat) → List (Option Arg) → List Nat
  | b :: bs, some _ :: os => b.1 :: liveOuts bs os
  | _ :: bs, none :: os => liveOuts bs os
  | _, _ => []

/-- The package's tables that are read hold what they hold, and nothing of 'own' is one of them. -/
def Fixed (own : List Nat) (w : World) : Prop := ∀ p ∈ fixed, (∃ t z, w.heap[p.1]? = some (.cells p.2 t z)) ∧ p.1 ∉ own
/-- Blocks that were there hold what they held, but for those of 'own'. -/
structure After (own : List Nat) (w w' : World) : Prop where
  fix : Fixed own w
  os : w'.os = w.os
  tape : w'.tape = w.tape
  output : w'.output = w.output
  size : w.heap.size ≤ w'.heap.size
  block : ∀ k, k < w.heap.size → k ∉ own → w'.heap[k]? = w.heap[k]?

def Post (w : World) (S : Nat → Prop) (ab : List (Nat × Nat)) (res : RV) (outs : List (Option Arg)) (e : Ending) (w' : World) : Prop :=
  ∃ (u : Value) (S' : Nat → Prop) (bs : List Nat), e = .returned u ∧ After (ab.map (·.1)) w w' ∧ (∀ b, S b → S' b) ∧
    (∀ b, S' b → b < w'.heap.size ∧ (S b ∨ w.heap.size ≤ b ∨ b ∈ ab.map (·.1))) ∧
    RVrep w' S' res u bs ∧ (bs ++ liveOuts ab outs).Nodup ∧ (∀ b ∈ bs, ¬ S' b ∧ b < w'.heap.size ∧ (w.heap.size ≤ b ∨ b ∈ ab.map (·.1))) ∧
    OutReps w' S' ab outs

/-- What comes out of an argument has the argument's shape. -/
def Arg.like : List Arg → List (Option Arg) → Prop
  | .mrow sz es :: ags, some (.mrow sz' es') :: os => sz' = sz ∧ es'.length = es.length ∧ Arg.like ags os
  | .mvar cs :: ags, some (.mvar cs') :: os => cs'.length = cs.length ∧ Arg.like ags os
  | .mrow _ _ :: ags, none :: os => Arg.like ags os
  | .mvar _ :: ags, none :: os => Arg.like ags os
  | .val _ :: ags, os => Arg.like ags os
  | .agg _ :: ags, os => Arg.like ags os
  | [], [] => True
  | _, _ => False

/-- A function with a body of its own. -/
def enters (P : Program) (f : FuncId) : Prop := ∃ fn, P.funcs[f]? = some fn ∧ (fn.name == "runtime.NumGoroutine") = false ∧ fn.body.isNone = false

/-- How the parts of the arguments stand together: one by itself; so many ags one struct. -/
abbrev Shape := List (Option Nat)
def flatU : Shape → List Value → Option (List Value)
  | [], [] => some []
  | none :: sh, u :: us => (flatU sh us).map fun l => u :: l
  | some n :: sh, .agg cs :: us => if cs.size = n then (flatU sh us).map fun l => cs.toList ++ l else none
  | _, _ => none
def flatV : Shape → List AV → Option (List AV)
  | [], [] => some []
  | none :: sh, v :: vs => (flatV sh vs).map fun l => v :: l
  | some n :: sh, .agg cs :: vs => if cs.length = n then (flatV sh vs).map fun l => cs ++ l else none
  | _, _ => none
/-- Each by itself. -/
def nones (ags : List Arg) : Shape := ags.map fun _ => none

/-- Function f, handed such arguments, returns such a result, in every world; nothing else that was there has turned. -/
def CallsFS (P : Program) (f : FuncId) (sh : Shape) (args : List Arg) (res : RV) (outs : List (Option Arg)) : Prop :=
  enters P f ∧ Arg.like args outs ∧ ∀ (w : World) (S : Nat → Prop) (us usF : List Value) (ab : List (Nat × Nat)), (∀ b, S b → b < w.heap.size) → flatU sh us = some usF → ArgsRep w S args usF ab → (ab.map (·.1)).Nodup →
    (∀ b ∈ ab.map (·.1), b < w.heap.size) → Fixed (ab.map (·.1)) w → Calls P f us.toArray w (Post w S ab res outs)
def CallsF (P : Program) (f : FuncId) (args : List Arg) (res : RV) (outs : List (Option Arg)) : Prop := CallsFS P f (nones args) args res outs

theorem flatU_nones : ∀ (ags : List Arg) (us usF : List Value), flatU (nones ags) us = some usF → usF = us
  | [], [], usF, h => by simp [nones, flatU] at h; exact h
  | [], _ :: _, usF, h => by simp [nones, flatU] at h
  | _ :: ags, [], usF, h => by simp [nones, flatU] at h
  | _ :: ags, u :: us, usF, h => by
    simp only [nones, List.map_cons, flatU] at h
    cases hr : flatU (ags.map fun _ => none) us with
    | none => rw [hr] at h; cases h
    | some l =>
      rw [hr] at h
      have := flatU_nones ags us l hr
      simp at h
      rw [← h, this]
theorem flatU_self : ∀ (ags : List Arg) (us : List Value), us.length = ags.length → flatU (nones ags) us = some us
  | [], [], _ => rfl
  | [], _ :: _, h => by simp at h
  | _ :: ags, [], h => by simp at h
  | _ :: ags, u :: us, h => by
    have := flatU_self ags us (by simpa using h)
    simp only [nones, List.map_cons, flatU]
    unfold nones at this
    rw [this]
    rfl
theorem flatV_args {st : St} : ∀ {vs : List AV} {ags : List Arg}, st.args vs ags → flatV (nones ags) vs = some vs
  | [], [], _ => rfl
  | [], _ :: _, h => h.elim
  | _ :: _, [], h => h.elim
  | v :: vs, b :: ags, h => by
    have := flatV_args (vs := vs) (ags := ags) h.2
    simp only [nones, List.map_cons, flatV]
    unfold nones at this
    rw [this]
    rfl

/-! ### the state behind a call -/
mutual
def retA (d : Nat) (k : Nat) : RV → AV × Eff × Nat
  | .t x => (.t x, [], k)
  | .own sz es => (.row (d, k) sz 0 es.length, [((d, k), some (.row sz es))], k + 1)
  | .agg cs => let r := retAs d k cs; (.agg r.1, r.2.1, r.2.2)
  | .tup cs => let r := retAs d k cs; (.tup r.1, r.2.1, r.2.2)
  | .var cs => (.ptr (d, k) 0 0, [((d, k), some (.var (cs.map .t)))], k + 1)
  | .map kd kvs => (.mp (d, k), [((d, k), some (.map kd (kvs.map fun p => (p.1, .t (.v p.2)))))], k + 1)
def retAs (d : Nat) (k : Nat) : List RV → List AV × Eff × Nat
  | [] => ([], [], k)
  | r :: rs => let a := retA d k r; let b := retAs d a.2.2 rs; (a.1 :: b.1, a.2.1 ++ b.2.1, b.2.2)
end

/-- The objects behind the arguments. -/
def outEff : List AV → List Arg → List (Option Arg) → Eff
  | .row id _ _ _ :: vs, .mrow _ _ :: ags, o :: os => (match o with | some (.mrow sz es) => (id, some (.row sz es)) | _ => (id, none)) :: outEff vs ags os
  | .ptr id _ _ :: vs, .mvar _ :: ags, o :: os => (match o with | some (.mvar cs) => (id, some (.var (cs.map .t))) | _ => (id, none)) :: outEff vs ags os
  | _ :: vs, _ :: ags, os => outEff vs ags os
  | _, _, _ => []

/-! ### what is to be shown -/

def St.eff' (s : St) (d : Option Nat) (v : AV) (f : Eff) : St := (s.eff f).put d v

/-- A region: its operations; is its order drawn; which of its makers of objects may write on others. -/
structure Rg where
  ops : Array Oper
  drawn : Bool
  loud : List Nat

def Rg.mute (rg : Rg) (d : Option Nat) : Bool := rg.drawn && !(rg.loud.contains (d.getD 0))

/-- Nothing but own objects is written. -/
def muted (b : Bool) (d : Nat) (x : Option (AV × Eff)) : Option (AV × Eff) :=
  if b = true then match x with
    | some (v, f) => if f.all (fun p => p.1.1 == d) = true then some (v, f) else none
    | none => none
  else x

def T.flat : T → Prop
  | .v _ => True
  | .sl _ => False
  | .mp .. => False

mutual
def RV.flat : RV → Prop
  | .t x => x.flat
  | .own _ es => ∀ e ∈ es, ∀ x ∈ e, T.flat x
  | .agg cs => RV.flats cs
  | .tup cs => RV.flats cs
  | .var cs => ∀ x ∈ cs, T.flat x
  | .map .. => True
def RV.flats : List RV → Prop
  | [] => True
  | r :: rs => r.flat ∧ RV.flats rs
end

def Arg.flat : Option Arg → Prop
  | some (.mrow _ es) => ∀ e ∈ es, ∀ x ∈ e, T.flat x
  | some (.mvar cs) => ∀ x ∈ cs, T.flat x
  | _ => True
def Arg.flats : List (Option Arg) → Prop
  | [] => True
  | o :: os => Arg.flat o ∧ Arg.flats os

/-- What is handed over to be read. -/
def valsOf : List AV → List Arg → List AV
  | v :: vs, .val _ :: ags => v :: valsOf vs ags
  | v :: vs, .agg _ :: ags => v.cells ++ valsOf vs ags
  | _ :: vs, _ :: ags => valsOf vs ags
  | _, _ => []

/-- The objects that are handed over to be written. -/
def mutsOf : List AV → List Arg → List Id
  | .row id _ _ _ :: vs, .mrow .. :: ags => id :: mutsOf vs ags
  | .ptr id _ _ :: vs, .mvar _ :: ags => id :: mutsOf vs ags
  | _ :: vs, _ :: ags => mutsOf vs ags
  | _, _ => []

def apartArgs (vs : List AV) (ags : List Arg) : Prop := (mutsOf vs ags).Nodup ∧ ∀ id ∈ mutsOf vs ags, noRow id (valsOf vs ags) = true

def callFrz (keep : Bool) (st : St) (vs : List AV) (ags : List Arg) : Eff := if keep = true then [] else st.frzEffs (valsOf vs ags)

def retOf (d : Option Nat) (res : RV) : AV × Eff :=
  match d with
  | none => (.bad, [])
  | some t => ((retA t 0 res).1, (retA t 0 res).2.1)

/-- A call: K's second place is not to be looked into. keep: what is read stays writable behind the call, for nothing that came back names it. -/
def CallK (P : Program) (f : FuncId) (mute : Bool) (st : St) (vs : List AV) (d : Option Nat) (K : St → Prop) : Prop :=
  ∃ sh vsF ags res outs keep, flatV sh vs = some vsF ∧ ArgsOk st vsF ags keep ∧ apartArgs vsF ags ∧ CallsFS P f sh ags res outs ∧ (keep = true → res.flat ∧ Arg.flats outs) ∧ (mute = true → callFrz keep st vsF ags ++ outEff vsF ags outs = []) ∧
    K ((st.eff (callFrz keep st vsF ags ++ outEff vsF ags outs ++ (retOf d res).2)).put d (retOf d res).1)

/-- There is a value, and of it f holds. -/
def andT {α : Type} (x : Option α) (f : α → Prop) : Prop := ∃ r, x = some r ∧ f r

def noisy : Op → Bool
  | .buildSlice .. => true
  | _ => false

def wpOp (P : Program) (rg : Rg) (o : Oper) (st : St) (K : St → Prop) : Prop :=
  match o.op with
  | .call { callee := .value (.func f), args := args, .. } => CallK P f (rg.mute o.dst) st (args.toList.map st.ev) o.dst K
  | op => andT (muted (noisy op && rg.mute o.dst) (o.dst.getD 0) (evOp P (o.dst.getD 0) st op)) fun r => K (st.eff' o.dst r.1 r.2)

/-- A guard: is the operation carried out? -/
def guardA (st : St) (ops : Array Oper) : Option (Nat × Bool) → Option Bool
  | none => some true
  | some (j, want) => match ((ops[j]?).bind (·.dst)).map st.tm with
    | some (.t (.v (.bool b))) => some (b == want)
    | some (.tup []) => some false
    | _ => none

/-- Both ways, where it isn't decided. -/
def onB (b : Bool) (p q : Prop) : Prop := if b = true then p else q

def wpL (P : Program) (rg : Rg) : List Oper → St → (St → Prop) → Prop
  | [], st, K => K st
  | o :: l, st, K => andT (guardA st rg.ops o.guard) fun b => onB b (wpOp P rg o st fun st' => wpL P rg l st' K) (wpL P rg l (st.put o.dst (.tup [])) K)

mutual
def AV.kill (ds : List Nat) : AV → AV
  | .row id sz i n => if id.1 ∈ ds then .bad else .row id sz i n
  | .ptr id i j => if id.1 ∈ ds then .bad else .ptr id i j
  | .agg cs => .agg (AV.kills ds cs)
  | .tup cs => .tup (AV.kills ds cs)
  | .mp id => if id.1 ∈ ds then .bad else .mp id
  | .clo f xs ys => .clo f (AV.kills ds xs) (AV.kills ds ys)
  | .ifc ty x => .ifc ty (x.kill ds)
  | v => v
def AV.kills (ds : List Nat) : List AV → List AV
  | [] => []
  | v :: vs => v.kill ds :: AV.kills ds vs
end

def Ob.kill (ds : List Nat) : Ob → Ob
  | .var cs => .var (AV.kills ds cs)
  | .big sz es => .big sz (es.map (AV.kills ds))
  | .map kd kvs => .map kd (kvs.map fun p => (p.1, p.2.kill ds))
  | o => o

/-- The temporaries at which this region makes objects. -/
def makes : List Oper → List Nat
  | [] => []
  | o :: l => (match o.op with
    | .alloc _ | .box .. | .buildSlice .. | .makeSlice .. | .makeMap .. => o.dst.toList
    | .call { callee := .builtin .len, .. } => []
    | .call _ => o.dst.toList
    | _ => []) ++ makes l

def St.kill (s : St) (ds : List Nat) : St :=
  if ds = [] then s else { tm := fun t => (s.tm t).kill ds, ob := fun id => if id.1 ∈ ds then none else (s.ob id).map (Ob.kill ds), gh := fun t => (s.gh t).kill ds }

inductive Ex where
  | normal
  | exit (id : Nat)
  | ret

def boolA : AV → Option Bool
  | .t (.v (.bool b)) => some b
  | _ => none

def wpC (P : Program) (lo : Nat → List Nat) : Code → (Ex → St → Prop) → St → Prop
  | .skip, Q, st => Q .normal st
  | .region id ops dr, Q, st => wpL P ⟨ops, dr, lo id⟩ ops.toList (st.kill (makes ops.toList)) (Q .normal)
  | .seq a b, Q, st => wpC P lo a (fun e st' => match e with | .normal => wpC P lo b Q st' | e => Q e st') st
  | .cond c x y, Q, st => andT (boolA (st.ev c)) fun b => onB b (wpC P lo x Q st) (wpC P lo y Q st)
  | .block id c, Q, st => wpC P lo c (fun e st' => match e with | .exit i => if i = id then Q .normal st' else Q (.exit i) st' | e => Q e st') st
  | .loop c, Q, st => ∃ (I : St → Prop) (μ : St → Nat), I st ∧ ∀ st, I st → wpC P lo c (fun e st' => match e with | .normal => I st' ∧ μ st' < μ st | e => Q e st') st
  | .exit id, Q, st => Q (.exit id) st
  | .ret, Q, st => Q .ret st
  | .scope c, Q, st => wpC P lo c Q st
  | _, _, _ => False

/-! ### the function -/
/-- The arguments' objects have ids from here on. -/
def base : Nat := 100000

def St.enter (ags : List Arg) : St where
  tm := fun t => match ags[t]? with
    | some (.val x) => .t x
    | some (.agg xs) => .agg (xs.map .t)
    | some (.mrow sz es) => .row (base + t, 0) sz 0 es.length
    | some (.mvar _) => .ptr (base + t, 0) 0 0
    | none => .bad
  ob := fun id => if base ≤ id.1 ∧ id.2 = 0 then match ags[id.1 - base]? with
    | some (.mrow sz es) => some (.row sz es)
    | some (.mvar cs) => some (.var (cs.map .t))
    | _ => none else none
  gh := fun _ => .bad

def argTm (ags : List Arg) (k : Nat) : AV :=
  match ags[k]? with
  | some (.val x) => .t x
  | some (.agg xs) => .agg (xs.map .t)
  | some (.mrow sz es) => .row (base + k, 0) sz 0 es.length
  | some (.mvar _) => .ptr (base + k, 0) 0 0
  | none => .bad
def enterTm (ags : List Arg) : Shape → Nat → Nat → AV
  | [], _, _ => .bad
  | none :: _, k, 0 => argTm ags k
  | none :: sh, k, t + 1 => enterTm ags sh (k + 1) t
  | some n :: _, k, 0 => .agg ((List.range n).map fun j => argTm ags (k + j))
  | some n :: sh, k, t + 1 => enterTm ags sh (k + n) t
def St.enterS (sh : Shape) (ags : List Arg) : St := { (St.enter ags) with tm := enterTm ags sh 0 }

mutual
def St.toRV (s : St) : AV → Option RV
  | .t x => some (.t x)
  | .row id _ i n => match s.ob id with
    | some (.row sz es) => if i = 0 ∧ n = es.length then some (.own sz es) else some (.t (.sl (window es i n)))
    | some (.frz _ es) => some (.t (.sl (window es i n)))
    | _ => none
  | .ptr id i j => if i = 0 ∧ j = 0 then match s.ob id with
    | some (.var cs) => (s.toTs cs).map .var
    | _ => none
    else none
  | .agg cs => (s.toRVs cs).map .agg
  | .tup cs => (s.toRVs cs).map .tup
  | .mp id => match s.ob id with
    | some (.map kd kvs) => (flatVals kvs).map (.map kd)
    | some (.fmap kd kvs) => some (.t (.mp kd kvs))
    | _ => none
  | _ => none
def St.toRVs (s : St) : List AV → Option (List RV)
  | [] => some []
  | v :: vs => match s.toRV v, s.toRVs vs with
    | some r, some rs => some (r :: rs)
    | _, _ => none
end

/-! ### the rules by which states are reckoned out -/


@[simp] theorem andT_some {α : Type} (r : α) (f : α → Prop) : andT (some r) f = f r := by simp [andT]
@[simp] theorem andT_none {α : Type} (f : α → Prop) : andT none f = False := by simp [andT]
@[simp] theorem onB_true (p q : Prop) : onB true p q = p := rfl
@[simp] theorem onB_false (p q : Prop) : onB false p q = q := by simp [onB]

@[simp] theorem ev_tmp (s : St) (t : Nat) : s.ev (.tmp t) = s.tm t := rfl
@[simp] theorem ev_int (s : St) (k : IntKind) (n : Int) : s.ev (.const (.int k n)) = .t (.v (.int k n)) := rfl
@[simp] theorem ev_bool (s : St) (b : Bool) : s.ev (.const (.bool b)) = .t (.v (.bool b)) := rfl
@[simp] theorem ev_str (s : St) (b : ByteArray) : s.ev (.const (.string b)) = .t (.v (.string b)) := rfl
@[simp] theorem ev_nil (s : St) : s.ev (.const (.slice none 0 0)) = .t (.v (.slice none 0 0)) := rfl
@[simp] theorem ev_agg (s : St) (cs : Array Value) : s.ev (.const (.agg cs)) = if cs.all plain then .agg (cs.toList.map fun u => .t (.v u)) else .bad := rfl
@[simp] theorem ev_nilptr (s : St) : s.ev (.const (.pointer none)) = .t (.v (.pointer none)) := rfl

@[simp] theorem ev_nilmap (s : St) : s.ev (.const (.map none)) = .t (.v (.map none)) := rfl
@[simp] theorem ev_nilfunc (s : St) : s.ev (.const .nilFunc) = .t (.v .nilFunc) := rfl

@[simp] theorem tm_put_same (s : St) (t : Nat) (v : AV) : (s.put (some t) v).tm t = v := by simp [St.put]
@[simp] theorem tm_put (s : St) (d t : Nat) (v : AV) : (s.put (some d) v).tm t = if t = d then v else s.tm t := rfl
@[simp] theorem put_none (s : St) (v : AV) : s.put none v = s := rfl
@[simp] theorem ob_put (s : St) (d : Option Nat) (v : AV) : (s.put d v).ob = s.ob := by cases d <;> rfl
@[simp] theorem eff_nil (s : St) : s.eff [] = s := rfl
@[simp] theorem eff_cons (s : St) (id : Id) (o : Option Ob) (l : Eff) : s.eff ((id, o) :: l) = (s.setOb id o).eff l := rfl
@[simp] theorem eff'_def (s : St) (d : Option Nat) (v : AV) (f : Eff) : s.eff' d v f = (s.eff f).put d v := rfl
@[simp] theorem gh_put (s : St) (d : Option Nat) (v : AV) : (s.put d v).gh = s.gh := by cases d <;> rfl
@[simp] theorem gh_setOb (s : St) (id : Id) (o : Option Ob) : (s.setOb id o).gh = s.gh := rfl
@[simp] theorem gh_kill (s : St) (d : Nat) (ds : List Nat) (t : Nat) : (s.kill (d :: ds)).gh t = (s.gh t).kill (d :: ds) := by simp [St.kill]
@[simp] theorem tm_setOb (s : St) (id : Id) (o : Option Ob) : (s.setOb id o).tm = s.tm := rfl
@[simp] theorem ob_setOb_same (s : St) (id : Id) (o : Option Ob) : (s.setOb id o).ob id = o := by simp [St.setOb]
@[simp] theorem ob_setOb (s : St) (a b c d : Nat) (o : Option Ob) : (s.setOb (a, b) o).ob (c, d) = if c = a ∧ d = b then o else s.ob (c, d) := by
  simp [St.setOb]
@[simp] theorem kill_nil (s : St) : s.kill [] = s := by simp [St.kill]
@[simp] theorem tm_kill (s : St) (d : Nat) (ds : List Nat) (t : Nat) : (s.kill (d :: ds)).tm t = (s.tm t).kill (d :: ds) := by simp [St.kill]
@[simp] theorem ob_kill (s : St) (d : Nat) (ds : List Nat) (a b : Nat) : (s.kill (d :: ds)).ob (a, b) = if (d :: ds).contains a then none else (s.ob (a, b)).map (Ob.kill (d :: ds)) := by simp [St.kill]
@[simp] theorem kill_t (ds : List Nat) (x : T) : (AV.t x).kill ds = .t x := by simp [AV.kill]
@[simp] theorem kill_roptr (ds : List Nat) (x : List T) : (AV.roptr x).kill ds = .roptr x := by simp [AV.kill]
@[simp] theorem kill_full (ds : List Nat) (x : List (List T)) : (AV.full x).kill ds = .full x := by simp [AV.kill]
@[simp] theorem kill_bad (ds : List Nat) : AV.bad.kill ds = .bad := by simp [AV.kill]
@[simp] theorem kill_row (ds : List Nat) (a b sz i n : Nat) : (AV.row (a, b) sz i n).kill ds = if ds.contains a then .bad else .row (a, b) sz i n := by simp [AV.kill]
@[simp] theorem kill_ptr (ds : List Nat) (a b i n : Nat) : (AV.ptr (a, b) i n).kill ds = if ds.contains a then .bad else .ptr (a, b) i n := by simp [AV.kill]
@[simp] theorem kill_agg (ds : List Nat) (cs : List AV) : (AV.agg cs).kill ds = .agg (AV.kills ds cs) := by simp [AV.kill]
@[simp] theorem kill_tup (ds : List Nat) (cs : List AV) : (AV.tup cs).kill ds = .tup (AV.kills ds cs) := by simp [AV.kill]
@[simp] theorem kill_mp (ds : List Nat) (a b : Nat) : (AV.mp (a, b)).kill ds = if ds.contains a then .bad else .mp (a, b) := by simp [AV.kill]
@[simp] theorem kill_clo (ds : List Nat) (f : Nat) (xs ys : List AV) : (AV.clo f xs ys).kill ds = .clo f (AV.kills ds xs) (AV.kills ds ys) := by simp [AV.kill]
@[simp] theorem kill_ifc (ds : List Nat) (t : Nat) (v : AV) : (AV.ifc t v).kill ds = .ifc t (v.kill ds) := by simp [AV.kill]
@[simp] theorem kills_nil (ds : List Nat) : AV.kills ds [] = [] := by simp [AV.kills]
@[simp] theorem kills_cons (ds : List Nat) (v : AV) (vs : List AV) : AV.kills ds (v :: vs) = v.kill ds :: AV.kills ds vs := by simp [AV.kills]
@[simp] theorem kills_map_t (ds : List Nat) (xs : List T) : AV.kills ds (xs.map .t) = xs.map .t := by induction xs <;> simp_all
@[simp] theorem obkill_var (ds : List Nat) (cs : List AV) : (Ob.var cs).kill ds = .var (AV.kills ds cs) := rfl
@[simp] theorem obkill_row (ds : List Nat) (sz : Nat) (es : List (List T)) : (Ob.row sz es).kill ds = .row sz es := rfl
@[simp] theorem obkill_frz (ds : List Nat) (sz : Nat) (es : List (List T)) : (Ob.frz sz es).kill ds = .frz sz es := rfl

@[simp] theorem obkill_big (ds : List Nat) (sz : Nat) (es : List (List AV)) : (Ob.big sz es).kill ds = .big sz (es.map (AV.kills ds)) := rfl
@[simp] theorem obkill_map (ds : List Nat) (kd : Nat) (kvs : List (MK × AV)) : (Ob.map kd kvs).kill ds = .map kd (kvs.map fun p => (p.1, p.2.kill ds)) := rfl
@[simp] theorem obkill_fmap (ds : List Nat) (kd : Nat) (kvs : List (MK × Value)) : (Ob.fmap kd kvs).kill ds = .fmap kd kvs := rfl
attribute [simp] makes boolA
/-- An operation's outcome, and what follows: ags data, so that simp doesn't look into what follows. -/
def stepT (P : Program) (rg : Rg) (l : List Oper) (st : St) (d : Option Nat) (x : Option (AV × Eff)) (K : St → Prop) : Prop := andT x fun r => wpL P rg l (st.eff' d r.1 r.2) K
def CallL (P : Program) (f : FuncId) (st : St) (vs : List AV) (d : Option Nat) (rg : Rg) (l : List Oper) (K : St → Prop) : Prop := CallK P f (rg.mute d) st vs d fun st' => wpL P rg l st' K
def guardT (P : Program) (rg : Rg) (o : Oper) (l : List Oper) (st : St) (g : Option Bool) (K : St → Prop) : Prop :=
  andT g fun b => onB b (wpOp P rg o st fun st' => wpL P rg l st' K) (wpL P rg l (st.put o.dst (.tup [])) K)
@[simp] theorem stepT_some (P : Program) (rg : Rg) (l : List Oper) (st : St) (d : Option Nat) (r : AV × Eff) (K : St → Prop) : stepT P rg l st d (some r) K = wpL P rg l ((st.eff r.2).put d r.1) K := by simp [stepT, St.eff']
@[simp] theorem stepT_none (P : Program) (rg : Rg) (l : List Oper) (st : St) (d : Option Nat) (K : St → Prop) : stepT P rg l st d none K = False := by simp [stepT]
@[simp] theorem wpL_nil (P : Program) (rg : Rg) (st : St) (K : St → Prop) : wpL P rg [] st K = K st := rfl
@[simp] theorem wpL_move (P : Program) (rg : Rg) (l : List Oper) (d : Option Nat) (x : Operand) (t : TypeId) (pos : String) (af : Array Edge) (st : St) (K : St → Prop) : wpL P rg (⟨d, .move x, t, pos, af, none⟩ :: l) st K = wpL P rg l (st.put d (st.ev x)) K := by simp [wpL, guardA, wpOp, evOp, St.eff', noisy, muted]
@[simp] theorem wpL_assign (P : Program) (rg : Rg) (l : List Oper) (d : Option Nat) (x : Operand) (t : TypeId) (pos : String) (af : Array Edge) (st : St) (K : St → Prop) : wpL P rg (⟨d, .assign x, t, pos, af, none⟩ :: l) st K = stepT P rg l st d (evOp P (d.getD 0) st (.assign x)) K := by simp only [wpL, guardA, andT_some, onB_true]; rfl
@[simp] theorem wpL_pick (P : Program) (rg : Rg) (l : List Oper) (d : Option Nat) (a b c : Operand) (t : TypeId) (pos : String) (af : Array Edge) (st : St) (K : St → Prop) : wpL P rg (⟨d, .pick a b c, t, pos, af, none⟩ :: l) st K = stepT P rg l st d (evOp P (d.getD 0) st (.pick a b c)) K := by simp only [wpL, guardA, andT_some, onB_true]; rfl
@[simp] theorem wpL_alloc (P : Program) (rg : Rg) (l : List Oper) (d : Option Nat) (e : TypeId) (t : TypeId) (pos : String) (af : Array Edge) (st : St) (K : St → Prop) : wpL P rg (⟨d, .alloc e, t, pos, af, none⟩ :: l) st K = stepT P rg l st d (evOp P (d.getD 0) st (.alloc e)) K := by simp only [wpL, guardA, andT_some, onB_true]; rfl
@[simp] theorem wpL_box (P : Program) (rg : Rg) (l : List Oper) (d : Option Nat) (e : TypeId) (x : Operand) (t : TypeId) (pos : String) (af : Array Edge) (st : St) (K : St → Prop) : wpL P rg (⟨d, .box e x, t, pos, af, none⟩ :: l) st K = stepT P rg l st d (evOp P (d.getD 0) st (.box e x)) K := by simp only [wpL, guardA, andT_some, onB_true]; rfl
@[simp] theorem wpL_build (P : Program) (rg : Rg) (l : List Oper) (d : Option Nat) (e : TypeId) (ps : Array (Nat × Operand)) (t : TypeId) (pos : String) (af : Array Edge) (st : St) (K : St → Prop) : wpL P rg (⟨d, .build e ps, t, pos, af, none⟩ :: l) st K = stepT P rg l st d (evOp P (d.getD 0) st (.build e ps)) K := by simp only [wpL, guardA, andT_some, onB_true]; rfl
@[simp] theorem wpL_buildSlice (P : Program) (rg : Rg) (l : List Oper) (d : Option Nat) (e : TypeId) (n : Nat) (ps : Array (Nat × Operand)) (t : TypeId) (pos : String) (af : Array Edge) (st : St) (K : St → Prop) : wpL P rg (⟨d, .buildSlice e n ps, t, pos, af, none⟩ :: l) st K = stepT P rg l st d (muted (rg.mute d) (d.getD 0) (evOp P (d.getD 0) st (.buildSlice e n ps))) K := by simp only [wpL, guardA, andT_some, onB_true]; rfl
@[simp] theorem wpL_load (P : Program) (rg : Rg) (l : List Oper) (d : Option Nat) (e : TypeId) (x : Operand) (t : TypeId) (pos : String) (af : Array Edge) (st : St) (K : St → Prop) : wpL P rg (⟨d, .load e x, t, pos, af, none⟩ :: l) st K = stepT P rg l st d (evOp P (d.getD 0) st (.load e x)) K := by simp only [wpL, guardA, andT_some, onB_true]; rfl
@[simp] theorem wpL_store (P : Program) (rg : Rg) (l : List Oper) (d : Option Nat) (e : TypeId) (x y : Operand) (t : TypeId) (pos : String) (af : Array Edge) (st : St) (K : St → Prop) : wpL P rg (⟨d, .store e x y, t, pos, af, none⟩ :: l) st K = stepT P rg l st d (evOp P (d.getD 0) st (.store e x y)) K := by simp only [wpL, guardA, andT_some, onB_true]; rfl
@[simp] theorem wpL_nilCheck (P : Program) (rg : Rg) (l : List Oper) (d : Option Nat) (x : Operand) (t : TypeId) (pos : String) (af : Array Edge) (st : St) (K : St → Prop) : wpL P rg (⟨d, .nilCheck x, t, pos, af, none⟩ :: l) st K = stepT P rg l st d (evOp P (d.getD 0) st (.nilCheck x)) K := by simp only [wpL, guardA, andT_some, onB_true]; rfl
@[simp] theorem wpL_binOp (P : Program) (rg : Rg) (l : List Oper) (d : Option Nat) (o : BinOp) (e : TypeId) (x y : Operand) (e2 : TypeId) (t : TypeId) (pos : String) (af : Array Edge) (st : St) (K : St → Prop) : wpL P rg (⟨d, .binOp o e x y e2, t, pos, af, none⟩ :: l) st K = stepT P rg l st d (evOp P (d.getD 0) st (.binOp o e x y e2)) K := by simp only [wpL, guardA, andT_some, onB_true]; rfl
@[simp] theorem wpL_unOp (P : Program) (rg : Rg) (l : List Oper) (d : Option Nat) (o : UnOp) (e : TypeId) (x : Operand) (t : TypeId) (pos : String) (af : Array Edge) (st : St) (K : St → Prop) : wpL P rg (⟨d, .unOp o e x, t, pos, af, none⟩ :: l) st K = stepT P rg l st d (evOp P (d.getD 0) st (.unOp o e x)) K := by simp only [wpL, guardA, andT_some, onB_true]; rfl
@[simp] theorem wpL_convert (P : Program) (rg : Rg) (l : List Oper) (d : Option Nat) (e e2 : TypeId) (x : Operand) (t : TypeId) (pos : String) (af : Array Edge) (st : St) (K : St → Prop) : wpL P rg (⟨d, .convert e e2 x, t, pos, af, none⟩ :: l) st K = stepT P rg l st d (evOp P (d.getD 0) st (.convert e e2 x)) K := by simp only [wpL, guardA, andT_some, onB_true]; rfl
@[simp] theorem wpL_slice (P : Program) (rg : Rg) (l : List Oper) (d : Option Nat) (e : TypeId) (x : Operand) (a b c : Option Operand) (t : TypeId) (pos : String) (af : Array Edge) (st : St) (K : St → Prop) : wpL P rg (⟨d, .slice e x a b c, t, pos, af, none⟩ :: l) st K = stepT P rg l st d (evOp P (d.getD 0) st (.slice e x a b c)) K := by simp only [wpL, guardA, andT_some, onB_true]; rfl
@[simp] theorem wpL_fieldAddr (P : Program) (rg : Rg) (l : List Oper) (d : Option Nat) (e : TypeId) (x : Operand) (f : Nat) (t : TypeId) (pos : String) (af : Array Edge) (st : St) (K : St → Prop) : wpL P rg (⟨d, .fieldAddr e x f, t, pos, af, none⟩ :: l) st K = stepT P rg l st d (evOp P (d.getD 0) st (.fieldAddr e x f)) K := by simp only [wpL, guardA, andT_some, onB_true]; rfl
@[simp] theorem wpL_field (P : Program) (rg : Rg) (l : List Oper) (d : Option Nat) (e : TypeId) (x : Operand) (f : Nat) (t : TypeId) (pos : String) (af : Array Edge) (st : St) (K : St → Prop) : wpL P rg (⟨d, .field e x f, t, pos, af, none⟩ :: l) st K = stepT P rg l st d (evOp P (d.getD 0) st (.field e x f)) K := by simp only [wpL, guardA, andT_some, onB_true]; rfl
@[simp] theorem wpL_indexAddr (P : Program) (rg : Rg) (l : List Oper) (d : Option Nat) (e : TypeId) (x y : Operand) (t : TypeId) (pos : String) (af : Array Edge) (st : St) (K : St → Prop) : wpL P rg (⟨d, .indexAddr e x y, t, pos, af, none⟩ :: l) st K = stepT P rg l st d (evOp P (d.getD 0) st (.indexAddr e x y)) K := by simp only [wpL, guardA, andT_some, onB_true]; rfl
@[simp] theorem wpL_index (P : Program) (rg : Rg) (l : List Oper) (d : Option Nat) (e : TypeId) (x y : Operand) (t : TypeId) (pos : String) (af : Array Edge) (st : St) (K : St → Prop) : wpL P rg (⟨d, .index e x y, t, pos, af, none⟩ :: l) st K = stepT P rg l st d (evOp P (d.getD 0) st (.index e x y)) K := by simp only [wpL, guardA, andT_some, onB_true]; rfl
@[simp] theorem wpL_extract (P : Program) (rg : Rg) (l : List Oper) (d : Option Nat) (x : Operand) (i : Nat) (t : TypeId) (pos : String) (af : Array Edge) (st : St) (K : St → Prop) : wpL P rg (⟨d, .extract x i, t, pos, af, none⟩ :: l) st K = stepT P rg l st d (evOp P (d.getD 0) st (.extract x i)) K := by simp only [wpL, guardA, andT_some, onB_true]; rfl
@[simp] theorem wpL_makeSlice (P : Program) (rg : Rg) (l : List Oper) (d : Option Nat) (e : TypeId) (x y : Operand) (t : TypeId) (pos : String) (af : Array Edge) (st : St) (K : St → Prop) : wpL P rg (⟨d, .makeSlice e x y, t, pos, af, none⟩ :: l) st K = stepT P rg l st d (evOp P (d.getD 0) st (.makeSlice e x y)) K := by simp only [wpL, guardA, andT_some, onB_true]; rfl
@[simp] theorem wpL_makeMap (P : Program) (rg : Rg) (l : List Oper) (d : Option Nat) (e : TypeId) (x : Option Operand) (t : TypeId) (pos : String) (af : Array Edge) (st : St) (K : St → Prop) : wpL P rg (⟨d, .makeMap e x, t, pos, af, none⟩ :: l) st K = stepT P rg l st d (evOp P (d.getD 0) st (.makeMap e x)) K := by simp only [wpL, guardA, andT_some, onB_true]; rfl
@[simp] theorem wpL_lookup (P : Program) (rg : Rg) (l : List Oper) (d : Option Nat) (e : TypeId) (x y : Operand) (b : Bool) (t : TypeId) (pos : String) (af : Array Edge) (st : St) (K : St → Prop) : wpL P rg (⟨d, .lookup e x y b, t, pos, af, none⟩ :: l) st K = stepT P rg l st d (evOp P (d.getD 0) st (.lookup e x y b)) K := by simp only [wpL, guardA, andT_some, onB_true]; rfl
@[simp] theorem wpL_mapUpdate (P : Program) (rg : Rg) (l : List Oper) (d : Option Nat) (e : TypeId) (x y z : Operand) (t : TypeId) (pos : String) (af : Array Edge) (st : St) (K : St → Prop) : wpL P rg (⟨d, .mapUpdate e x y z, t, pos, af, none⟩ :: l) st K = stepT P rg l st d (evOp P (d.getD 0) st (.mapUpdate e x y z)) K := by simp only [wpL, guardA, andT_some, onB_true]; rfl
@[simp] theorem wpL_makeFunc (P : Program) (rg : Rg) (l : List Oper) (d : Option Nat) (f : Fn) (xs ys : Array Operand) (t : TypeId) (pos : String) (af : Array Edge) (st : St) (K : St → Prop) : wpL P rg (⟨d, .makeFunc f xs ys, t, pos, af, none⟩ :: l) st K = stepT P rg l st d (evOp P (d.getD 0) st (.makeFunc f xs ys)) K := by simp only [wpL, guardA, andT_some, onB_true]; rfl
@[simp] theorem wpL_makeInterface (P : Program) (rg : Rg) (l : List Oper) (d : Option Nat) (e : TypeId) (x : Operand) (t : TypeId) (pos : String) (af : Array Edge) (st : St) (K : St → Prop) : wpL P rg (⟨d, .makeInterface e x, t, pos, af, none⟩ :: l) st K = stepT P rg l st d (evOp P (d.getD 0) st (.makeInterface e x)) K := by simp only [wpL, guardA, andT_some, onB_true]; rfl
@[simp] theorem wpL_typeAssert (P : Program) (rg : Rg) (l : List Oper) (d : Option Nat) (e e2 : TypeId) (x : Operand) (b : Bool) (t : TypeId) (pos : String) (af : Array Edge) (st : St) (K : St → Prop) : wpL P rg (⟨d, .typeAssert x e e2 b, t, pos, af, none⟩ :: l) st K = stepT P rg l st d (evOp P (d.getD 0) st (.typeAssert x e e2 b)) K := by simp only [wpL, guardA, andT_some, onB_true]; rfl
@[simp] theorem wpL_builtin (P : Program) (rg : Rg) (l : List Oper) (d : Option Nat) (b : Builtin) (xs : Array Operand) (ts : Array TypeId) (t : TypeId) (pos : String) (af : Array Edge) (st : St) (K : St → Prop) : wpL P rg (⟨d, .call ⟨.builtin b, xs, ts⟩, t, pos, af, none⟩ :: l) st K = stepT P rg l st d (evOp P (d.getD 0) st (.call ⟨.builtin b, xs, ts⟩)) K := by simp only [wpL, guardA, andT_some, onB_true]; rfl
@[simp] theorem wpL_call (P : Program) (rg : Rg) (l : List Oper) (d : Option Nat) (f : FuncId) (xs : Array Operand) (ts : Array TypeId) (t : TypeId) (pos : String) (af : Array Edge) (st : St) (K : St → Prop) : wpL P rg (⟨d, .call ⟨.value (.func f), xs, ts⟩, t, pos, af, none⟩ :: l) st K = CallL P f st (xs.toList.map st.ev) d rg l K := by simp only [wpL, guardA, andT_some, onB_true]; rfl
@[simp] theorem wpL_guard (P : Program) (rg : Rg) (l : List Oper) (d : Option Nat) (op : Op) (g : Nat × Bool) (t : TypeId) (pos : String) (af : Array Edge) (st : St) (K : St → Prop) : wpL P rg (⟨d, op, t, pos, af, some g⟩ :: l) st K = guardT P rg ⟨d, op, t, pos, af, some g⟩ l st (guardA st rg.ops (some g)) K := rfl
@[simp] theorem guardT_true (P : Program) (rg : Rg) (l : List Oper) (d : Option Nat) (op : Op) (g : Option (Nat × Bool)) (t : TypeId) (pos : String) (af : Array Edge) (st : St) (K : St → Prop) : guardT P rg ⟨d, op, t, pos, af, g⟩ l st (some true) K = wpL P rg (⟨d, op, t, pos, af, none⟩ :: l) st K := by simp only [wpL, guardA, guardT, andT_some, onB_true]; rfl
@[simp] theorem guardT_false (P : Program) (rg : Rg) (l : List Oper) (d : Option Nat) (op : Op) (g : Option (Nat × Bool)) (t : TypeId) (pos : String) (af : Array Edge) (st : St) (K : St → Prop) : guardT P rg ⟨d, op, t, pos, af, g⟩ l st (some false) K = wpL P rg l (st.put d (.tup [])) K := by simp only [guardT, andT_some, onB_false]
/-- Equal; not to be looked into. -/
def beqB (b want : Bool) : Bool := b == want
@[simp] theorem beqB_tt : beqB true true = true := rfl
@[simp] theorem beqB_tf : beqB true false = false := rfl
@[simp] theorem beqB_ft : beqB false true = false := rfl
@[simp] theorem beqB_ff : beqB false false = true := rfl
@[simp] theorem guardA_some (st : St) (ops : Array Oper) (j : Nat) (want : Bool) : guardA st ops (some (j, want)) = match ((ops[j]?).bind (·.dst)).map st.tm with
    | some (.t (.v (.bool b))) => some (beqB b want)
    | some (.tup []) => some false
    | _ => none := rfl
attribute [simp] evOp callA AV.cells AV.one asOne nilA fieldAddrA fieldA indexAddrO extractA intA
@[simp] theorem pickA_bool (t : Bool) (a b : AV) : pickA (.t (.v (.bool t))) a b = some (if t = true then a else b, []) := rfl
@[simp] theorem binA_v (op : BinOp) (ty : Bool) (a b : Value) : binA op ty (.t (.v a)) (.t (.v b)) = (binV op ty a b).map fun u => (.t (.v u), []) := rfl
@[simp] theorem binP_int (pt : Bool) (op : BinOp) (ty : Bool) (k : IntKind) (n : Int) (y : AV) : binP pt op ty (.t (.v (.int k n))) y = binA op ty (.t (.v (.int k n))) y := rfl
@[simp] theorem binP_bool (pt : Bool) (op : BinOp) (ty : Bool) (b : Bool) (y : AV) : binP pt op ty (.t (.v (.bool b))) y = binA op ty (.t (.v (.bool b))) y := rfl
@[simp] theorem binP_str (pt : Bool) (op : BinOp) (ty : Bool) (b : ByteArray) (y : AV) : binP pt op ty (.t (.v (.string b))) y = binA op ty (.t (.v (.string b))) y := rfl
@[simp] theorem binP_ptr (op : BinOp) (ty : Bool) (id : Id) (i j : Nat) : binP true op ty (.ptr id i j) (.t (.v (.pointer none))) = eqlA op false := rfl
@[simp] theorem binP_nil (op : BinOp) (ty : Bool) : binP true op ty (.t (.v (.pointer none))) (.t (.v (.pointer none))) = eqlA op true := rfl
@[simp] theorem eqlA_eql (b : Bool) : eqlA .eql b = some (.t (.v (.bool b)), []) := rfl
@[simp] theorem eqlA_neq (b : Bool) : eqlA .neq b = some (.t (.v (.bool !b)), []) := rfl
@[simp] theorem unA_v (op : UnOp) (a : Value) : unA op (.t (.v a)) = (unV op a).map fun u => (.t (.v u), []) := rfl
@[simp] theorem binV_add (ty : Bool) (k : IntKind) (a b : Int) : binV .add ty (.int k a) (.int k b) = some (.int k (k.wrap (a + b))) := by simp [binV]
@[simp] theorem binV_sub (ty : Bool) (k : IntKind) (a b : Int) : binV .sub ty (.int k a) (.int k b) = some (.int k (k.wrap (a - b))) := by simp [binV]
@[simp] theorem binV_mul (ty : Bool) (k : IntKind) (a b : Int) : binV .mul ty (.int k a) (.int k b) = some (.int k (k.wrap (a * b))) := by simp [binV]
@[simp] theorem binV_quo (ty : Bool) (k : IntKind) (a b : Int) : binV .quo ty (.int k a) (.int k b) = if b = 0 then none else some (.int k (k.wrap (a.tdiv b))) := by simp [binV]
@[simp] theorem binV_rem (ty : Bool) (k : IntKind) (a b : Int) : binV .rem ty (.int k a) (.int k b) = if b = 0 then none else some (.int k (a.tmod b)) := by simp [binV]
@[simp] theorem binV_eql (ty : Bool) (k : IntKind) (a b : Int) : binV .eql ty (.int k a) (.int k b) = some (.bool (a == b)) := by simp [binV]
@[simp] theorem binV_neq (ty : Bool) (k : IntKind) (a b : Int) : binV .neq ty (.int k a) (.int k b) = some (.bool (a != b)) := by simp [binV]
@[simp] theorem binV_lss (ty : Bool) (k : IntKind) (a b : Int) : binV .lss ty (.int k a) (.int k b) = some (.bool (a < b)) := by simp [binV]
@[simp] theorem binV_leq (ty : Bool) (k : IntKind) (a b : Int) : binV .leq ty (.int k a) (.int k b) = some (.bool (a ≤ b)) := by simp [binV]
@[simp] theorem binV_gtr (ty : Bool) (k : IntKind) (a b : Int) : binV .gtr ty (.int k a) (.int k b) = some (.bool (a > b)) := by simp [binV]
@[simp] theorem binV_geq (ty : Bool) (k : IntKind) (a b : Int) : binV .geq ty (.int k a) (.int k b) = some (.bool (a ≥ b)) := by simp [binV]
@[simp] theorem binV_beql (a b : Bool) : binV .eql true (.bool a) (.bool b) = some (.bool (a == b)) := rfl
@[simp] theorem binV_bneq (a b : Bool) : binV .neq true (.bool a) (.bool b) = some (.bool !(a == b)) := rfl
@[simp] theorem isBoolT_bool : isBoolT (some .bool) = true := rfl
@[simp] theorem unV_not (b : Bool) : unV .not (.bool b) = some (.bool !b) := rfl
@[simp] theorem unV_neg (k : IntKind) (n : Int) : unV .neg (.int k n) = some (.int k (k.wrap (0 - n))) := rfl
@[simp] theorem loadA_roptr (st : St) (agg : Bool) (size : Nat) (cs : List T) : loadA st agg size (.roptr cs) = if size ≤ cs.length then asOne agg ((cs.take size).map .t) else none := rfl
@[simp] theorem loadA_ptr (st : St) (agg : Bool) (size : Nat) (id : Id) (i j : Nat) : loadA st agg size (.ptr id i j) = match st.ob id with
    | some (.var cs) => if i = 0 ∧ j + size ≤ cs.length then asOne agg ((cs.drop j).take size) else none
    | some (.row _ es) | some (.frz _ es) => match es[i]? with
      | some e => if j + size ≤ e.length then asOne agg (((e.drop j).take size).map .t) else none
      | none => none
    | some (.big _ es) => match es[i]? with
      | some e => if j + size ≤ e.length then asOne agg ((e.drop j).take size) else none
      | none => none
    | _ => none := rfl

/-- int64 read of a list. -/
def rd (xs : List Int) (i : Int) : Int := xs.getD i.toNat 0
def ints (l : List Int) : T := .sl (l.map fun x => [.v (.int .i64 x)])
@[simp] theorem lenA_ints (k : Nat) (l : List Int) : lenA (.sl k) (.t (ints l)) = some l.length := by simp [lenA, ints]
@[simp] theorem lenA_sl (k : Nat) (es : List (List T)) : lenA (.sl k) (.t (.sl es)) = some es.length := rfl
@[simp] theorem lenA_row (k : Nat) (id : Id) (sz i n : Nat) : lenA (.sl k) (.row id sz i n) = some n := rfl
@[simp] theorem lenA_str (s : ByteArray) : lenA .str (.t (.v (.string s))) = some s.size := rfl
@[simp] theorem lenA_nil (k : Nat) : lenA (.sl k) (.t (.v (.slice none 0 0))) = some 0 := rfl
theorem rd_at {xs : List Int} {i : Int} (h0 : 0 ≤ i) (h1 : i < xs.length) : xs[i.toNat]? = some (rd xs i) := by
  unfold rd
  rw [List.getD_eq_getElem?_getD, List.getElem?_eq_getElem (by omega)]
  rfl
@[simp] theorem index_ints (e : Nat) (ag : Bool) (b : Nat) (z : List Value) (l : List Int) (i : Int) (h0 : 0 ≤ i) (h1 : i < l.length) :
    indexAddrA (some (e, ⟨ag, 1, b, z⟩)) (.t (ints l)) i = some (.roptr [.v (.int .i64 (rd l i))]) := by
  simp [indexAddrA, ints, h0, rd_at h0 h1]
@[simp] theorem wrap_add (a b : Int) (h0 : -9223372036854775808 ≤ a + b) (h1 : a + b < 9223372036854775808) : IntKind.i64.wrap (a + b) = a + b := IntWalk.i64_in _ (by omega)
@[simp] theorem wrap_sub (a b : Int) (h0 : -9223372036854775808 ≤ a - b) (h1 : a - b < 9223372036854775808) : IntKind.i64.wrap (a - b) = a - b := IntWalk.i64_in _ (by omega)
@[simp] theorem wrap_nat (n : Nat) (h1 : n < 9223372036854775808) : IntKind.i64.wrap (n : Int) = n := IntWalk.i64_in _ (by omega)
theorem wrap_in {x : Int} (h0 : -9223372036854775808 ≤ x) (h1 : x < 9223372036854775808) : IntKind.i64.wrap x = x := by
  have := IntWalk.i64_in x (by omega)
  exact this


def thenQ (K : St → Prop) (Q : Ex → St → Prop) : Ex → St → Prop
  | .normal, s => K s
  | e, s => Q e s
def inBlk (id : Nat) (Q : Ex → St → Prop) : Ex → St → Prop
  | .exit i, s => if i = id then Q .normal s else Q (.exit i) s
  | e, s => Q e s
@[simp] theorem thenQ_normal (K : St → Prop) (Q : Ex → St → Prop) (s : St) : thenQ K Q .normal s = K s := rfl
@[simp] theorem thenQ_exit (K : St → Prop) (Q : Ex → St → Prop) (s : St) (i : Nat) : thenQ K Q (.exit i) s = Q (.exit i) s := rfl
@[simp] theorem thenQ_ret (K : St → Prop) (Q : Ex → St → Prop) (s : St) : thenQ K Q .ret s = Q .ret s := rfl
@[simp] theorem inBlk_normal (id : Nat) (Q : Ex → St → Prop) (s : St) : inBlk id Q .normal s = Q .normal s := rfl
@[simp] theorem inBlk_ret (id : Nat) (Q : Ex → St → Prop) (s : St) : inBlk id Q .ret s = Q .ret s := rfl
@[simp] theorem inBlk_exit_same (id : Nat) (Q : Ex → St → Prop) (s : St) : inBlk id Q (.exit id) s = Q .normal s := by simp [inBlk]
@[simp] theorem inBlk_exit_ne (id i : Nat) (Q : Ex → St → Prop) (s : St) (h : i ≠ id) : inBlk id Q (.exit i) s = Q (.exit i) s := by simp [inBlk, h]

theorem andT_mono {α : Type} {x : Option α} {f g : α → Prop} (h : andT x f) (hg : ∀ r, f r → g r) : andT x g := by
  obtain ⟨r, h1, h2⟩ := h
  exact ⟨r, h1, hg r h2⟩
theorem onB_mono {b : Bool} {p q p' q' : Prop} (h : onB b p q) (hp : p → p') (hq : q → q') : onB b p' q' := by
  cases b
  · exact hq h
  · exact hp h
theorem wpOp_mono {P : Program} {rg : Rg} {o : Oper} {st : St} {K K' : St → Prop} (h : wpOp P rg o st K) (hk : ∀ s, K s → K' s) : wpOp P rg o st K' := by
  unfold wpOp at *
  split at h
  · obtain ⟨sh, vsF, ags, res, outs, keep, h0, h1, h2, h3, h4, h5, h6⟩ := h
    exact ⟨sh, vsF, ags, res, outs, keep, h0, h1, h2, h3, h4, h5, hk _ h6⟩
  · exact andT_mono h fun r hr => hk _ hr
theorem wpL_mono {P : Program} {rg : Rg} : ∀ {l : List Oper} {st : St} {K K' : St → Prop}, wpL P rg l st K → (∀ s, K s → K' s) → wpL P rg l st K'
  | [], _, _, _, h, hk => hk _ h
  | _ :: _, _, _, _, h, hk => by
    unfold wpL at *
    exact andT_mono h fun b hb => onB_mono hb (fun h1 => wpOp_mono h1 fun s hs => wpL_mono hs hk) (fun h1 => wpL_mono h1 hk)
theorem wpC_mono {P : Program} {lo : Nat → List Nat} : ∀ (c : Code) {Q Q' : Ex → St → Prop} {st : St}, wpC P lo c Q st → (∀ e s, Q e s → Q' e s) → wpC P lo c Q' st
  | .skip, _, _, _, h, hq => hq _ _ h
  | .region _ _ _, _, _, _, h, hq => wpL_mono h fun s hs => hq _ _ hs
  | .seq a b, _, _, _, h, hq => by
    unfold wpC at *
    refine wpC_mono a h fun e s hs => ?_
    cases e
    · exact wpC_mono b hs hq
    · exact hq _ _ hs
    · exact hq _ _ hs
  | .cond c x y, _, _, _, h, hq => by
    unfold wpC at *
    exact andT_mono h fun b hb => onB_mono hb (fun h1 => wpC_mono x h1 hq) (fun h1 => wpC_mono y h1 hq)
  | .block id c, _, _, _, h, hq => by
    unfold wpC at *
    refine wpC_mono c h fun e s hs => ?_
    cases e
    · exact hq _ _ hs
    · dsimp only at hs ⊢
      split
      · rename_i hi; rw [if_pos hi] at hs; exact hq _ _ hs
      · rename_i hi; rw [if_neg hi] at hs; exact hq _ _ hs
    · exact hq _ _ hs
  | .loop c, _, _, _, h, hq => by
    unfold wpC at *
    obtain ⟨I, μ, h0, h1⟩ := h
    refine ⟨I, μ, h0, fun s hs => wpC_mono c (h1 s hs) fun e s' hs' => ?_⟩
    cases e
    · exact hs'
    · exact hq _ _ hs'
    · exact hq _ _ hs'
  | .exit _, _, _, _, h, hq => hq _ _ h
  | .ret, _, _, _, h, hq => hq _ _ h
  | .scope c, _, _, _, h, hq => by
    unfold wpC at *
    exact wpC_mono c h hq
  | .rangeFunc .., _, _, _, h, _ => h.elim
  | .label _, _, _, _, h, _ => h.elim
  | .goto _, _, _, _, h, _ => h.elim
  | .refuse _, _, _, _, h, _ => h.elim
theorem wpC_seq {P : Program} {lo : Nat → List Nat} {a b : Code} {Q : Ex → St → Prop} {st : St}
    (h : ∀ K : St → Prop, (∀ s, wpC P lo b Q s → K s) → wpC P lo a (thenQ K Q) st) : wpC P lo (.seq a b) Q st := by
  unfold wpC
  refine wpC_mono a (h (wpC P lo b Q) fun _ h => h) fun e s hs => ?_
  cases e <;> exact hs
theorem wpC_block {P : Program} {lo : Nat → List Nat} {c : Code} {id : Nat} {Q : Ex → St → Prop} {st : St} (h : wpC P lo c (inBlk id Q) st) : wpC P lo (.block id c) Q st := by
  unfold wpC
  refine wpC_mono c h fun e s hs => ?_
  cases e <;> exact hs
theorem wpC_loop {P : Program} {lo : Nat → List Nat} {c : Code} {Q : Ex → St → Prop} {st : St} (I : St → Prop) (μ : St → Nat) (h0 : I st)
    (h : ∀ s, I s → ∀ K : St → Prop, (∀ s', I s' → μ s' < μ s → K s') → wpC P lo c (thenQ K Q) s) : wpC P lo (.loop c) Q st := by
  unfold wpC
  refine ⟨I, μ, h0, fun s hs => ?_⟩
  refine wpC_mono c (h s hs (fun s' => I s' ∧ μ s' < μ s) fun s' h1 h2 => ⟨h1, h2⟩) fun e s hs => ?_
  cases e <;> exact hs
@[simp] theorem wpC_region (P : Program) (lo : Nat → List Nat) (id : Nat) (ops : Array Oper) (d : Bool) (Q : Ex → St → Prop) (st : St) : wpC P lo (.region id ops d) Q st = wpL P ⟨ops, d, lo id⟩ ops.toList (st.kill (makes ops.toList)) (Q .normal) := rfl
@[simp] theorem wpC_skip (P : Program) (lo : Nat → List Nat) (Q : Ex → St → Prop) (st : St) : wpC P lo .skip Q st = Q .normal st := rfl
@[simp] theorem wpC_exit (P : Program) (lo : Nat → List Nat) (id : Nat) (Q : Ex → St → Prop) (st : St) : wpC P lo (.exit id) Q st = Q (.exit id) st := rfl
@[simp] theorem wpC_ret (P : Program) (lo : Nat → List Nat) (Q : Ex → St → Prop) (st : St) : wpC P lo .ret Q st = Q .ret st := rfl
/-- A branch, ags data. -/
def condT (P : Program) (lo : Nat → List Nat) (g : Option Bool) (x y : Code) (Q : Ex → St → Prop) (st : St) : Prop := andT g fun b => onB b (wpC P lo x Q st) (wpC P lo y Q st)
@[simp] theorem wpC_cond_def (P : Program) (lo : Nat → List Nat) (c : Operand) (x y : Code) (Q : Ex → St → Prop) (st : St) : wpC P lo (.cond c x y) Q st = condT P lo (boolA (st.ev c)) x y Q st := rfl
@[simp] theorem condT_true (P : Program) (lo : Nat → List Nat) (x y : Code) (Q : Ex → St → Prop) (st : St) : condT P lo (some true) x y Q st = wpC P lo x Q st := by simp [condT]
@[simp] theorem condT_false (P : Program) (lo : Nat → List Nat) (x y : Code) (Q : Ex → St → Prop) (st : St) : condT P lo (some false) x y Q st = wpC P lo y Q st := by simp [condT]
def numA : AV → Int
  | .t (.v (.int _ n)) => n
  | _ => 0
@[simp] theorem numA_int (k : IntKind) (n : Int) : numA (.t (.v (.int k n))) = n := rfl

attribute [irreducible] wpC wpL stepT CallL guardT condT beqB
end Cal

/- A calculus of our own, fourth part: how a pure state stands to a frame and a world; that this is kept. No program is named here. -/
namespace Cal
open Go Go.RowKit

mutual
/-- How an abstract value stands to a value; m: the objects' blocks, cap: the rows' capacities. -/
def AVrep (w : World) (S : Nat → Prop) (m cap : Id → Nat) (ob : Id → Option Ob) : AV → Value → Prop
  | .t x, u => Trep w S x u
  | .row id sz i n, u => ∃ A c, u = .slice A n c ∧ n ≤ c ∧ c ≤ maxLen ∧ (0 < n → ∃ a, A = some a) ∧ (∀ o, ob id = some o → o.ext ≠ none) ∧
      ∀ sz' l, (ob id).bind Ob.ext = some (sz', l) → sz' = sz ∧ i + n ≤ l ∧ i + c ≤ cap id ∧ (0 < c → A = some ⟨m id, i * sz, none⟩) ∧ (i = 0 → A = some ⟨m id, 0, none⟩ ∧ c = cap id)
  | .ptr id i j, u => ∃ a, u = .pointer (some a) ∧ (∀ cs, ob id = some (.var cs) → i = 0 → a = ⟨m id, j, none⟩) ∧
      (∀ sz l, (ob id).bind Ob.ext = some (sz, l) → i < l → a = ⟨m id, i * sz + j, none⟩)
  | .roptr cs, u => ∃ b off, u = .pointer (some ⟨b, off, none⟩) ∧ S b ∧ Creps w S b off cs
  | .full es, u => ∃ b, u = .slice (some ⟨b, 0, none⟩) es.length es.length ∧ S b ∧ Ereps w S b 0 1 es ∧ es.length ≤ maxLen
  | .agg cs, u => ∃ us : List Value, u = .agg us.toArray ∧ AVreps w S m cap ob cs us
  | .tup cs, u => ∃ us : List Value, u = .tuple us.toArray ∧ AVreps w S m cap ob cs us
  | .bad, _ => True
  | .mp id, u => ∃ b, u = .map (some b) ∧ (ob id ≠ none → b = m id)
  | .clo f xs ys, u => ∃ us vs : List Value, u = .func (.func f) us.toArray vs.toArray ∧ AVreps w S m cap ob xs us ∧ AVreps w S m cap ob ys vs
  | .ifc t v, u => ∃ x, u = .iface t x ∧ AVrep w S m cap ob v x
def AVreps (w : World) (S : Nat → Prop) (m cap : Id → Nat) (ob : Id → Option Ob) : List AV → List Value → Prop
  | [], us => us = []
  | v :: vs, us => ∃ u us', us = u :: us' ∧ AVrep w S m cap ob v u ∧ AVreps w S m cap ob vs us'
end

mutual
/-- An abstract value names no object of this sort. -/
def AV.free (p : Id → Prop) : AV → Prop
  | .row id _ _ _ => ¬ p id
  | .ptr id _ _ => ¬ p id
  | .agg cs => AV.frees p cs
  | .tup cs => AV.frees p cs
  | .mp id => ¬ p id
  | .clo _ xs ys => AV.frees p xs ∧ AV.frees p ys
  | .ifc _ v => v.free p
  | _ => True
def AV.frees (p : Id → Prop) : List AV → Prop
  | [] => True
  | v :: vs => v.free p ∧ AV.frees p vs
end

/-- What an object may turn into, seen by those who name it: nothing, itself with other contents of the same shape; what is no longer written stays so. -/
def Ob.leads (o o' : Option Ob) : Prop :=
  match o, o' with
  | _, none => True
  | some a, some b => a.shape = b.shape ∧ (a.cold = true → b.cold = true)
  | none, some _ => False

theorem Ob.leads_ext {o o' : Option Ob} (h : Ob.leads o o') {q : Nat × Nat} (hq : o'.bind Ob.ext = some q) : o.bind Ob.ext = some q := by
  cases o' with
  | none => cases hq
  | some b =>
    cases o with
    | none => exact h.elim
    | some a =>
      have := h.1
      cases a <;> cases b <;> simp_all [Ob.shape, Ob.ext]
theorem Ob.leads_var {o o' : Option Ob} (h : Ob.leads o o') {cs : List AV} (hq : o' = some (.var cs)) : ∃ cs', o = some (.var cs') := by
  subst hq
  cases o with
  | none => exact h.elim
  | some a =>
    have := h.1
    cases a <;> simp_all [Ob.shape]
theorem Ob.leads_live {o o' : Option Ob} (h : Ob.leads o o') (hq : o' ≠ none) : o ≠ none := by
  rintro rfl
  cases o' with
  | none => exact hq rfl
  | some b => exact h.elim
theorem Ob.leads_isExt {o o' : Option Ob} (h : Ob.leads o o') (k : ∀ a, o = some a → a.ext ≠ none) : ∀ b, o' = some b → b.ext ≠ none := by
  rintro b rfl
  cases o with
  | none => exact h.elim
  | some a =>
    have h1 := h.1
    have h2 := k a rfl
    cases a <;> cases b <;> simp_all [Ob.shape, Ob.ext]

/-- Objects that p has may be made anew; the others lead on. -/
structure Turn (p : Id → Prop) (m m' cap cap' : Id → Nat) (ob ob' : Id → Option Ob) : Prop where
  lead : ∀ id, ¬ p id → Ob.leads (ob id) (ob' id)
  blk : ∀ id, ¬ p id → m' id = m id ∧ cap' id = cap id

mutual
theorem AVrep.keep {w w' : World} {S S' : Nat → Prop} {m m' cap cap' : Id → Nat} {ob ob' : Id → Option Ob} {p : Id → Prop} (hw : Same S w w') (hs : ∀ b, S b → S' b) (ht : Turn p m m' cap cap' ob ob') :
    ∀ (v : AV) (u : Value), v.free p → AVrep w S m cap ob v u → AVrep w' S' m' cap' ob' v u
  | .t x, u, _, h => by unfold AVrep at *; exact Trep.keep hw hs x u h
  | .row id sz0 i n, u, hf, h => by
    unfold AVrep at *
    unfold AV.free at hf
    obtain ⟨A, c, h1, h2, h3, h4, hv, h5⟩ := h
    have hl := ht.lead id hf
    obtain ⟨hm, hc⟩ := ht.blk id hf
    refine ⟨A, c, h1, h2, h3, h4, Ob.leads_isExt hl hv, fun sz l hes => ?_⟩
    rw [hm, hc]
    exact h5 sz l (Ob.leads_ext hl hes)
  | .ptr id i j, u, hf, h => by
    unfold AVrep at *
    unfold AV.free at hf
    obtain ⟨a, h1, h2, h3⟩ := h
    have hl := ht.lead id hf
    obtain ⟨hm, _⟩ := ht.blk id hf
    refine ⟨a, h1, fun cs hcs hi => ?_, fun sz l hes hi => ?_⟩
    · rw [hm]
      obtain ⟨cs', hcs'⟩ := Ob.leads_var hl hcs
      exact h2 cs' hcs' hi
    · rw [hm]
      exact h3 sz l (Ob.leads_ext hl hes) hi
  | .roptr cs, u, _, h => by
    unfold AVrep at *
    obtain ⟨b, off, h1, h2, h3⟩ := h
    exact ⟨b, off, h1, hs b h2, Creps.keep hw hs (hw b h2) off cs h3⟩
  | .full es, u, _, h => by
    unfold AVrep at *
    obtain ⟨b, h1, h2, h3, h4⟩ := h
    exact ⟨b, h1, hs b h2, Ereps.keep hw hs (hw b h2) 0 1 es h3, h4⟩
  | .agg cs, u, hf, h => by
    unfold AVrep at *
    unfold AV.free at hf
    obtain ⟨us, h1, h2⟩ := h
    exact ⟨us, h1, AVreps.keep hw hs ht cs us hf h2⟩
  | .tup cs, u, hf, h => by
    unfold AVrep at *
    unfold AV.free at hf
    obtain ⟨us, h1, h2⟩ := h
    exact ⟨us, h1, AVreps.keep hw hs ht cs us hf h2⟩
  | .bad, u, _, _ => by unfold AVrep; trivial
  | .mp id, u, hf, h => by
    unfold AVrep at *
    unfold AV.free at hf
    obtain ⟨b, h1, h2⟩ := h
    have hl := ht.lead id hf
    obtain ⟨hm, _⟩ := ht.blk id hf
    exact ⟨b, h1, fun hn => by rw [hm]; exact h2 (Ob.leads_live hl hn)⟩
  | .clo f xs ys, u, hf, h => by
    unfold AVrep at *
    unfold AV.free at hf
    obtain ⟨us, vs, h1, h2, h3⟩ := h
    exact ⟨us, vs, h1, AVreps.keep hw hs ht xs us hf.1 h2, AVreps.keep hw hs ht ys vs hf.2 h3⟩
  | .ifc t v, u, hf, h => by
    unfold AVrep at *
    unfold AV.free at hf
    obtain ⟨x, h1, h2⟩ := h
    exact ⟨x, h1, AVrep.keep hw hs ht v x hf h2⟩
theorem AVreps.keep {w w' : World} {S S' : Nat → Prop} {m m' cap cap' : Id → Nat} {ob ob' : Id → Option Ob} {p : Id → Prop} (hw : Same S w w') (hs : ∀ b, S b → S' b) (ht : Turn p m m' cap cap' ob ob') :
    ∀ (vs : List AV) (us : List Value), AV.frees p vs → AVreps w S m cap ob vs us → AVreps w' S' m' cap' ob' vs us
  | [], us, _, h => by unfold AVreps at *; exact h
  | v :: vs, us, hf, h => by
    unfold AVreps at *
    unfold AV.frees at hf
    obtain ⟨u, us', h1, h2, h3⟩ := h
    exact ⟨u, us', h1, AVrep.keep hw hs ht v u hf.1 h2, AVreps.keep hw hs ht vs us' hf.2 h3⟩
end

def Single (u : Value) : Prop := (∀ cs, u ≠ .agg cs) ∧ ∀ cs, u ≠ .tuple cs

/-- An object lies in its block. -/
def ObRep (w : World) (S : Nat → Prop) (m cap : Id → Nat) (ob : Id → Option Ob) (id : Id) : Ob → Prop
  | .var cs => (∃ arr ty, w.heap[m id]? = some (.cells arr ty (0, 0)) ∧ AVreps w S m cap ob cs arr.toList) ∧ ¬ S (m id)
  | .row sz es => OwnRow w S (m id) sz es (cap id) ∧ ¬ S (m id)
  | .frz sz es => OwnRow w S (m id) sz es (cap id) ∧ S (m id)
  | .big sz es => ((∃ arr ty, w.heap[m id]? = some (.cells arr ty (0, 0)) ∧ arr.size = cap id * sz ∧ AVreps w S m cap ob es.flatten (arr.toList.take (es.length * sz)) ∧ ∀ u ∈ arr.toList.take (es.length * sz), Single u) ∧ (∀ e ∈ es, e.length = sz) ∧ es.length ≤ cap id ∧ cap id ≤ maxLen) ∧ ¬ S (m id)
  | .map kd kvs => (∃ us, MapAt w (m id) kd (kvs.map (·.1)) us ∧ AVreps w S m cap ob (kvs.map (·.2)) us) ∧ ¬ S (m id)
  | .fmap kd kvs => (MapAt w (m id) kd (kvs.map (·.1)) (kvs.map (·.2)) ∧ ∀ p ∈ kvs, plain p.2 = true) ∧ S (m id)

/-- How a pure state stands to a frame and a world. w0, S0: when the call began; own: the blocks of arguments that are written. -/
structure RelAt (w0 : World) (S0 : Nat → Prop) (own : List Nat) (X : Nat → Value) (N : Nat) (m cap : Id → Nat) (S : Nat → Prop) (st : St) (a : Act) (w : World) : Prop where
  size : a.tmps.size = N
  defers : a.defers = []
  after : After own w0 w
  stab : ∀ b, S b → b < w.heap.size
  base : ∀ b, S0 b → S b
  fresh : ∀ b, S b → S0 b ∨ w0.heap.size ≤ b ∨ b ∈ own
  obs : ∀ id o, st.ob id = some o → ObRep w S m cap st.ob id o
  mine : ∀ id o, st.ob id = some o → w0.heap.size ≤ m id ∨ m id ∈ own
  inj : ∀ id id', st.ob id ≠ none → st.ob id' ≠ none → m id = m id' → id = id'
  tm : ∀ t, AVrep w S m cap st.ob (st.tm t) (a.tmps.getD t undef)
  gh : ∀ t, AVrep w S m cap st.ob (st.gh t) (X t)

/-- H: the blocks of the arguments that are written. -/
def Rel (w0 : World) (S0 : Nat → Prop) (own : List Nat) (H : Nat → Nat × Nat) (X : Nat → Value) (N : Nat) (st : St) (a : Act) (w : World) : Prop :=
  ∃ m cap S, RelAt w0 S0 own X N m cap S st a w ∧ ∀ k, m (base + k, 0) = (H k).1 ∧ cap (base + k, 0) = (H k).2

end Cal

/- A calculus of our own, fifth part: the operations that write nothing: the model does what the evaluator says. No program is named here. -/
set_option linter.unusedSimpArgs false
set_option linter.unusedVariables false
namespace Cal
open Go Go.RowKit

variable {P : Program} {w0 w : World} {S0 S : Nat → Prop} {own : List Nat} {X : Nat → Value} {N : Nat} {m cap : Id → Nat} {st : St} {a : Act}

theorem RelAt.put (h : RelAt w0 S0 own X N m cap S st a w) {d : Option Nat} (hd : ∀ t, d = some t → t < N) {v : AV} {u : Value} (hv : AVrep w S m cap st.ob v u) :
    RelAt w0 S0 own X N m cap S (st.put d v) (a.put d u) w := by
  cases d with
  | none => exact h
  | some t =>
    have ht := hd t rfl
    refine ⟨by simpa [Act.put] using h.size, h.defers, h.after, h.stab, h.base, h.fresh, h.obs, h.mine, h.inj, fun s => ?_, h.gh⟩
    by_cases hst : s = t
    · subst hst
      have hsz : s < a.tmps.size := by rw [h.size]; exact ht
      simpa [Act.put, St.put, Array.getD_eq_getD_getElem?, hsz] using hv
    · have := h.tm s
      simp only [Act.put, St.put, if_neg hst]
      rw [Array.getD_eq_getD_getElem?] at this ⊢
      rw [Array.getElem?_setIfInBounds_ne (fun e => hst e.symm)]
      exact this

theorem Trep_v {x : Value} (hp : plain x = true) : Trep w S (.v x) x := by unfold Trep; exact ⟨rfl, hp⟩
theorem AVrep_v {x : Value} (hp : plain x = true) {ob : Id → Option Ob} : AVrep w S m cap ob (.t (.v x)) x := by unfold AVrep; exact Trep_v hp
theorem AVrep_v_inv {x u : Value} {ob : Id → Option Ob} (h : AVrep w S m cap ob (.t (.v x)) u) : u = x ∧ plain x = true := by
  unfold AVrep Trep at h; exact h

theorem AVreps_plain {ob : Id → Option Ob} : ∀ {l : List Value}, (∀ x ∈ l, plain x = true) → AVreps w S m cap ob (l.map fun u => .t (.v u)) l
  | [], _ => by simp [AVreps]
  | x :: l, h => by
    simp only [List.map_cons]; unfold AVreps
    exact ⟨x, l, rfl, AVrep_v (h x (by simp)), AVreps_plain fun y hy => h y (by simp [hy])⟩

theorem AVrep_cst (x : Value) {ob : Id → Option Ob} : AVrep w S m cap ob (cst x) x := by
  unfold cst
  split
  · rename_i cs
    split
    · rename_i hc
      unfold AVrep
      refine ⟨cs.toList, by simp, AVreps_plain fun x hx => ?_⟩
      rw [Array.all_eq_true] at hc
      obtain ⟨i, hi, rfl⟩ := List.mem_iff_getElem.1 hx
      simpa using hc i (by simpa using hi)
    · unfold AVrep; trivial
  · split
    · exact AVrep_v (by assumption)
    · unfold AVrep; trivial

theorem RelAt.ev (h : RelAt w0 S0 own X N m cap S st a w) (x : Operand) : AVrep w S m cap st.ob (st.ev x) (a.eval x) := by
  cases x with
  | tmp t =>
    show AVrep w S m cap st.ob (st.tm t) (a.tmps.getD t undef)
    exact h.tm t
  | const v => exact AVrep_cst v
  | global g => unfold St.ev AVrep; trivial
  | func f => unfold St.ev AVrep; trivial

/-- The model's operation gives this value, and leaves the world alone. -/
def Still (P : Program) (o : Oper) (a : Act) (w : World) (u : Value) : Prop := (execOp a.eval o).run P w = .ok (.value u) w

theorem still_move {o : Oper} {x : Operand} (ho : o.op = .move x ∨ o.op = .assign x) : Still P o a w (a.eval x) := by
  rcases ho with ho | ho <;> simp [Still, execOp, ho]

theorem still_pick {o : Oper} {c x y : Operand} (ho : o.op = .pick c x y) (h : RelAt w0 S0 own X N m cap S st a w) {v : AV} {f : Eff} (hv : pickA (st.ev c) (st.ev x) (st.ev y) = some (v, f)) :
    ∃ u, Still P o a w u ∧ AVrep w S m cap st.ob v u ∧ f = [] := by
  have hc := h.ev c
  unfold pickA at hv
  split at hv
  · rename_i t he
    rw [he] at hc
    obtain ⟨hc, _⟩ := AVrep_v_inv hc
    simp only [Option.some.injEq, Prod.mk.injEq] at hv
    obtain ⟨rfl, rfl⟩ := hv
    cases t
    · exact ⟨a.eval y, by simp [Still, execOp, ho, hc, asBool], h.ev y, rfl⟩
    · exact ⟨a.eval x, by simp [Still, execOp, ho, hc, asBool], h.ev x, rfl⟩
  · cases hv

theorem still_nil {o : Oper} {x : Operand} (ho : o.op = .nilCheck x) (h : RelAt w0 S0 own X N m cap S st a w) {v : AV} {f : Eff} (hv : nilA (st.ev x) = some (v, f)) :
    ∃ u, Still P o a w u ∧ AVrep w S m cap st.ob v u ∧ f = [] := by
  have hx := h.ev x
  unfold nilA at hv
  split at hv
  · rename_i id i j he
    rw [he] at hx
    have hx' := hx
    unfold AVrep at hx'
    obtain ⟨ad, h1, _⟩ := hx'
    simp only [Option.some.injEq, Prod.mk.injEq] at hv
    obtain ⟨rfl, rfl⟩ := hv
    exact ⟨a.eval x, by simp [Still, execOp, ho, h1], hx, rfl⟩
  · rename_i cs he
    rw [he] at hx
    have hx' := hx
    unfold AVrep at hx'
    obtain ⟨b, off, h1, _⟩ := hx'
    simp only [Option.some.injEq, Prod.mk.injEq] at hv
    obtain ⟨rfl, rfl⟩ := hv
    exact ⟨a.eval x, by simp [Still, execOp, ho, h1], hx, rfl⟩
  · cases hv

theorem binV_plain {op : BinOp} {ty : Bool} {x y u : Value} (h : binV op ty x y = some u) : plain u = true := by
  unfold binV at h
  split at h
  · split at h
    · split at h <;> first | (cases h; rfl) | (split at h <;> first | (cases h; rfl) | cases h) | cases h
    · cases h
  · split at h <;> first | (cases h; rfl) | (split at h <;> first | (cases h; rfl) | cases h) | cases h
  · split at h
    · split at h <;> first | (cases h; rfl) | cases h
    · cases h
  · cases h

theorem run_eqGuard_int (op : BinOp) (t : TypeId) (o1 o2 : Operand) (k k' : IntKind) (a b : Int) (w : World) : (eqGuard op t o1 o2 (.int k a) (.int k' b)).run P w = .ok () w := by
  cases op <;> simp [eqGuard]
theorem run_eqGuard_str (op : BinOp) (t : TypeId) (o1 o2 : Operand) (a b : ByteArray) (w : World) : (eqGuard op t o1 o2 (.string a) (.string b)).run P w = .ok () w := by
  cases op <;> simp [eqGuard]
theorem run_eqGuard_bool (op : BinOp) (t : TypeId) (o1 o2 : Operand) (a b : Bool) (w : World) : (eqGuard op t o1 o2 (.bool a) (.bool b)).run P w = .ok () w := by
  cases op <;> simp [eqGuard]
theorem run_eql_bool2 (t : TypeId) (a b : Bool) (w : World) (ht : P.underlying t = some .bool) : (binOp .eql t (.bool a) (.bool b)).run P w = .ok (.bool (a == b)) w := by
  have e := run_equalIn_bool' (P := P) w 9999 t a b ht
  simp only [binOp]
  simp [Op.equal, Op.maxDepth, e]
theorem run_neq_bool2 (t : TypeId) (a b : Bool) (w : World) (ht : P.underlying t = some .bool) : (binOp .neq t (.bool a) (.bool b)).run P w = .ok (.bool !(a == b)) w := by
  have e := run_equalIn_bool' (P := P) w 9999 t a b ht
  simp only [binOp]
  simp [Op.equal, Op.maxDepth, e]

theorem run_binOp {op : BinOp} {t : TypeId} {x y u : Value} (w : World) (o1 o2 : Operand) (h : binV op (isBoolT (P.underlying t)) x y = some u) :
    ((eqGuard op t o1 o2 x y).run P w = .ok () w) ∧ (binOp op t x y).run P w = .ok u w := by
  unfold binV at h
  split at h
  · refine ⟨run_eqGuard_int .., ?_⟩
    split at h
    · rename_i hk; subst hk
      split at h <;> first
        | (cases h; simp [binOp, Op.intArith, Op.intCmp])
        | (split at h <;> first | (cases h; simp [binOp, Op.intDiv, *]) | cases h)
        | cases h
    · cases h
  · refine ⟨run_eqGuard_str .., ?_⟩
    split at h
    · split at h
      · cases h
      · rename_i hk
        cases h
        simp only [binOp, Op.stringOp, if_neg hk]
        rfl
    · cases h; simp [binOp, Op.stringOp]
    · cases h; simp [binOp, Op.stringOp]
    · cases h
  · refine ⟨run_eqGuard_bool .., ?_⟩
    split at h
    · rename_i ht
      have ht' : P.underlying t = some .bool := by
        unfold isBoolT at ht
        split at ht
        · assumption
        · cases ht
      split at h
      · cases h; exact run_eql_bool2 t _ _ w ht'
      · cases h; exact run_neq_bool2 t _ _ w ht'
      · cases h
    · cases h
  · cases h

theorem still_bin {o : Oper} {op : BinOp} {t t2 : TypeId} {x y : Operand} (ho : o.op = .binOp op t x y t2) (h : RelAt w0 S0 own X N m cap S st a w) {v : AV} {f : Eff} (hv : binA op (isBoolT (P.underlying t)) (st.ev x) (st.ev y) = some (v, f)) :
    ∃ u, Still P o a w u ∧ AVrep w S m cap st.ob v u ∧ f = [] := by
  have hx := h.ev x
  have hy := h.ev y
  unfold binA at hv
  split at hv
  · rename_i p q hp hq
    rw [hp] at hx
    rw [hq] at hy
    obtain ⟨hx, _⟩ := AVrep_v_inv hx
    obtain ⟨hy, _⟩ := AVrep_v_inv hy
    cases hb : binV op (isBoolT (P.underlying t)) p q with
    | none => rw [hb] at hv; cases hv
    | some u =>
      rw [hb] at hv
      simp only [Option.map_some, Option.some.injEq, Prod.mk.injEq] at hv
      obtain ⟨rfl, rfl⟩ := hv
      refine ⟨u, ?_, AVrep_v (binV_plain hb), rfl⟩
      obtain ⟨r1, r2⟩ := run_binOp w x y hb
      simp [Still, execOp, ho, hx, hy, r1, r2]
  · cases hv

theorem run_eqGuard_ptr (op : BinOp) (t : TypeId) (o1 o2 : Operand) (a : Option Addr) (w : World) : (eqGuard op t o1 o2 (.pointer a) (.pointer none)).run P w = .ok () w := by
  cases op <;> cases a <;> simp [eqGuard]
theorem run_eqlA {op : BinOp} {t : TypeId} {a : Option Addr} {v : AV} {f : Eff} (w : World) (hp : isPtrT (P.underlying t) = true) (h : eqlA op a.isNone = some (v, f)) :
    ∃ b : Bool, v = .t (.v (.bool b)) ∧ f = [] ∧ (binOp op t (.pointer a) (.pointer none)).run P w = .ok (.bool b) w := by
  obtain ⟨e, ht⟩ : ∃ e, P.underlying t = some (.pointer e) := by
    unfold isPtrT at hp
    split at hp
    · exact ⟨_, by assumption⟩
    · cases hp
  have e0 : (Op.equal t (.pointer a) (.pointer none)).run P w = .ok a.isNone w := by
    simp only [Op.equal, Op.maxDepth]
    unfold Op.equalIn
    cases a <;> simp [run_underlying ht, Result.andThen]
  unfold eqlA at h
  cases op <;> simp only at h <;> first
    | (cases h; done)
    | (cases h; exact ⟨_, rfl, rfl, by simp [binOp, e0]⟩)
theorem still_binP {o : Oper} {op : BinOp} {t t2 : TypeId} {x y : Operand} (ho : o.op = .binOp op t x y t2) (h : RelAt w0 S0 own X N m cap S st a w) {v : AV} {f : Eff} (hv : binP (isPtrT (P.underlying t)) op (isBoolT (P.underlying t)) (st.ev x) (st.ev y) = some (v, f)) :
    ∃ u, Still P o a w u ∧ AVrep w S m cap st.ob v u ∧ f = [] := by
  have hx := h.ev x
  have hy := h.ev y
  unfold binP at hv
  split at hv
  · rename_i hp hq
    split at hv
    · rename_i hpt
      rw [hp] at hx
      rw [hq] at hy
      obtain ⟨hy, _⟩ := AVrep_v_inv hy
      unfold AVrep at hx
      obtain ⟨ad, hx, _⟩ := hx
      obtain ⟨b, rfl, rfl, r2⟩ := run_eqlA (a := some ad) w hpt hv
      exact ⟨.bool b, by simp [Still, execOp, ho, hx, hy, run_eqGuard_ptr, r2], AVrep_v rfl, rfl⟩
    · cases hv
  · rename_i hp hq
    split at hv
    · rename_i hpt
      rw [hp] at hx
      rw [hq] at hy
      obtain ⟨hy, _⟩ := AVrep_v_inv hy
      obtain ⟨hx, _⟩ := AVrep_v_inv hx
      obtain ⟨b, rfl, rfl, r2⟩ := run_eqlA (a := none) w hpt hv
      exact ⟨.bool b, by simp [Still, execOp, ho, hx, hy, run_eqGuard_ptr, r2], AVrep_v rfl, rfl⟩
    · cases hv
  · exact still_bin ho h hv

theorem still_un {o : Oper} {op : UnOp} {t : TypeId} {x : Operand} (ho : o.op = .unOp op t x) (h : RelAt w0 S0 own X N m cap S st a w) {v : AV} {f : Eff} (hv : unA op (st.ev x) = some (v, f)) :
    ∃ u, Still P o a w u ∧ AVrep w S m cap st.ob v u ∧ f = [] := by
  have hx := h.ev x
  unfold unA at hv
  split at hv
  · rename_i p hp
    rw [hp] at hx
    obtain ⟨hx, _⟩ := AVrep_v_inv hx
    unfold unV at hv
    split at hv
    · simp only [Option.map_some, Option.some.injEq, Prod.mk.injEq] at hv
      obtain ⟨rfl, rfl⟩ := hv
      exact ⟨_, by simp [Still, execOp, ho, hx, Op.unary], AVrep_v rfl, rfl⟩
    · simp only [Option.map_some, Option.some.injEq, Prod.mk.injEq] at hv
      obtain ⟨rfl, rfl⟩ := hv
      exact ⟨_, by simp [Still, execOp, ho, hx, Op.unary, Op.intArith], AVrep_v rfl, rfl⟩
    · cases hv
  · cases hv

theorem still_conv {o : Oper} {t1 t2 : TypeId} {x : Operand} (ho : o.op = .convert t1 t2 x) (hsrc : (P.underlying t1).isSome) (h : RelAt w0 S0 own X N m cap S st a w) {v : AV} {f : Eff} (hv : convA (P.underlying t2) (st.ev x) = some (v, f)) :
    ∃ u, Still P o a w u ∧ AVrep w S m cap st.ob v u ∧ f = [] := by
  have hx := h.ev x
  unfold convA at hv
  split at hv
  · rename_i k k' n ht hp
    rw [hp] at hx
    obtain ⟨hx, _⟩ := AVrep_v_inv hx
    simp only [Option.some.injEq, Prod.mk.injEq] at hv
    obtain ⟨rfl, rfl⟩ := hv
    obtain ⟨d, hd⟩ := Option.isSome_iff_exists.1 hsrc
    exact ⟨_, by simp [Still, execOp, ho, hx, convert, underlying, ht, hd, Conv.intToInt], AVrep_v rfl, rfl⟩
  · cases hv

end Cal

/- A calculus of our own, sixth part: addresses, loads, lengths: the model does what the evaluator says. No program is named here. -/
set_option linter.unusedSimpArgs false
set_option linter.unusedVariables false
namespace Cal
open Go Go.RowKit

variable {P : Program} {w0 w : World} {S0 S : Nat → Prop} {own : List Nat} {X : Nat → Value} {N : Nat} {m cap : Id → Nat} {st : St} {a : Act}

theorem tinf_inv {t : TypeId} {i : TI} (h : tinf P t = some i) : ∃ inf d z, P.info? t = some inf ∧ P.underlying t = some d ∧ inf.zero = some z ∧ i.agg = isAggB d ∧ i.size = inf.size ∧ i.bytes = inf.bytes ∧ i.zero = z.cells.toList := by
  unfold tinf at h
  split at h
  · rename_i inf d h1 h2
    split at h
    · rename_i z h3
      cases h
      exact ⟨inf, d, z, h1, h2, h3, rfl, rfl, rfl, rfl⟩
    · cases h
  · cases h

theorem runT_sizeOf {t : TypeId} {i : TI} (h : tinf P t = some i) (w : World) : (Go.sizeOf t).run P w = .ok i.size w := by
  obtain ⟨inf, d, z, h1, h2, h3, h4, h5, h6, h7⟩ := tinf_inv h
  simp [Go.sizeOf, typeInfo, h1, h5]
theorem runT_isAgg {t : TypeId} {i : TI} (h : tinf P t = some i) (w : World) : (isAgg t).run P w = .ok i.agg w := by
  obtain ⟨inf, d, z, h1, h2, h3, h4, h5, h6, h7⟩ := tinf_inv h
  unfold isAgg
  simp only [Sem.run_bind, run_underlying h2, Result.andThen_ok, h4]
  cases d <;> simp [isAggB]
theorem runT_zeroValue {t : TypeId} {i : TI} (h : tinf P t = some i) (w : World) : ∃ z : Value, (zeroValue t).run P w = .ok z w ∧ z.cells.toList = i.zero := by
  obtain ⟨inf, d, z, h1, h2, h3, h4, h5, h6, h7⟩ := tinf_inv h
  exact ⟨z, by simp [zeroValue, typeInfo, h1, h3], h7.symm⟩

theorem foff_inv {t f off size : Nat} {agg : Bool} (h : foff P t f = some (off, size, agg)) : ∃ fs fd i, P.underlying t = some (.struct fs) ∧ fs[f]? = some fd ∧ tinf P fd.type = some i ∧ fd.offset = off ∧ i.size = size ∧ i.agg = agg := by
  unfold foff at h
  split at h
  · rename_i fs h1
    split at h
    · rename_i fd h2
      split at h
      · rename_i i h3
        simp only [Option.some.injEq, Prod.mk.injEq] at h
        exact ⟨fs, fd, i, h1, h2, h3, h.1, h.2.1, h.2.2⟩
      · cases h
    · cases h
  · cases h

theorem elemOf_inv {t e : TypeId} {i : TI} (h : elemOf P t = some (e, i)) : P.underlying t = some (.slice e) ∧ tinf P e = some i := by
  unfold elemOf at h
  split at h
  · rename_i e' h1
    cases h2 : tinf P e' with
    | none => rw [h2] at h; cases h
    | some i' =>
      rw [h2] at h
      simp only [Option.map_some, Option.some.injEq, Prod.mk.injEq] at h
      obtain ⟨rfl, rfl⟩ := h
      exact ⟨h1, h2⟩
  · cases h

theorem add_none (b off n : Nat) : (⟨b, off, none⟩ : Addr).add n = ⟨b, off + n, none⟩ := by
  unfold Addr.add
  split
  · simp_all
  · rfl

theorem still_fieldAddr {o : Oper} {t : TypeId} {x : Operand} {f : Nat} (ho : o.op = .fieldAddr t x f) (h : RelAt w0 S0 own X N m cap S st a w) {v : AV} {e : Eff} (hv : fieldAddrA (foff P t f) (st.ev x) = some (v, e)) :
    ∃ u, Still P o a w u ∧ AVrep w S m cap st.ob v u ∧ e = [] := by
  have hx := h.ev x
  unfold fieldAddrA at hv
  split at hv
  · rename_i off size agg id i j hf hp
    obtain ⟨fs, fd, inf, h1, h2, h3, h4, h5, h6⟩ := foff_inv hf
    split at hv
    · rename_i hs
      simp only [Option.some.injEq, Prod.mk.injEq] at hv
      obtain ⟨rfl, rfl⟩ := hv
      rw [hp] at hx
      unfold AVrep at hx
      obtain ⟨ad, hx1, hx2, hx3⟩ := hx
      refine ⟨.pointer (some (ad.add off)), ?_, ?_, rfl⟩
      · have hne : ¬ inf.size = 0 := by omega
        simp [Still, execOp, ho, hx1, Instr.fieldAt, Instr.sureAddr, run_underlying h1, h2, fieldPlace, runT_sizeOf h3, hne, h4]
      · unfold AVrep
        refine ⟨_, rfl, fun cs hc hi => ?_, fun sz es hc hi => ?_⟩
        · rw [hx2 cs hc hi, add_none]
        · rw [hx3 sz es hc hi, add_none, Nat.add_assoc]
    · cases hv
  · rename_i off size agg cs hf hp
    obtain ⟨fs, fd, inf, h1, h2, h3, h4, h5, h6⟩ := foff_inv hf
    split at hv
    · rename_i hs
      simp only [Option.some.injEq, Prod.mk.injEq] at hv
      obtain ⟨rfl, rfl⟩ := hv
      rw [hp] at hx
      unfold AVrep at hx
      obtain ⟨b, off0, hx1, hx2, hx3⟩ := hx
      refine ⟨.pointer (some ⟨b, off0 + off, none⟩), ?_, ?_, rfl⟩
      · have hne : ¬ inf.size = 0 := by omega
        simp [Still, execOp, ho, hx1, Instr.fieldAt, Instr.sureAddr, run_underlying h1, h2, fieldPlace, runT_sizeOf h3, hne, h4, add_none]
      · unfold AVrep
        exact ⟨b, off0 + off, rfl, hx2, hx3.drop off⟩
    · cases hv
  · cases hv

theorem still_indexAddr {o : Oper} {t : TypeId} {x ix : Operand} (ho : o.op = .indexAddr t x ix) (h : RelAt w0 S0 own X N m cap S st a w) {v : AV} {e : Eff} (hv : indexAddrO (elemOf P t) (st.ev x) (st.ev ix) = some (v, e)) :
    ∃ u, Still P o a w u ∧ AVrep w S m cap st.ob v u ∧ e = [] := by
  have hx := h.ev x
  have hi := h.ev ix
  unfold indexAddrO at hv
  split at hv
  · rename_i k n hn
    rw [hn] at hi
    obtain ⟨hi, _⟩ := AVrep_v_inv hi
    unfold indexAddrA at hv
    split at hv
    · rename_i el inf es hel hp
      obtain ⟨h1, h2⟩ := elemOf_inv hel
      rw [hp] at hx
      split at hv
      · rename_i h0
        split at hv
        · rename_i e0 he0
          split at hv
          · rename_i hsz
            simp only [Option.map_some, Option.some.injEq, Prod.mk.injEq] at hv
            obtain ⟨rfl, rfl⟩ := hv
            unfold AVrep Trep at hx
            obtain ⟨A, n', c, hx1, hx2, hx3, hx4, hx5⟩ := hx
            have hlt : n.toNat < es.length := (List.getElem?_eq_some_iff.1 he0).1
            obtain ⟨b, off, sz, rfl, hS, hE⟩ := hx5 (by omega)
            obtain ⟨g1, g2⟩ := hE.get he0
            refine ⟨.pointer (some ⟨b, off + n.toNat * sz, none⟩), ?_, ?_, rfl⟩
            · have hr : n < (n' : Int) := by omega
              have hz : inf.size = sz := by omega
              simp [Still, execOp, ho, hx1, hi, Instr.indexAt, asIntOf, run_underlying h1, h0, hr, runT_sizeOf h2, add_none, hz]
            · unfold AVrep
              exact ⟨b, _, rfl, hS, g2⟩
          · cases hv
        · cases hv
      · cases hv
    · rename_i el inf id sz r k' hel hp
      obtain ⟨h1, h2⟩ := elemOf_inv hel
      rw [hp] at hx
      split at hv
      · rename_i hc
        obtain ⟨hc1, hc2, hc3⟩ := hc
        simp only [Option.map_some, Option.some.injEq, Prod.mk.injEq] at hv
        obtain ⟨rfl, rfl⟩ := hv
        unfold AVrep at hx
        obtain ⟨A, c, hx1, hx2, hx3, hx4, hxv, hx5⟩ := hx
        obtain ⟨ad, rfl⟩ := hx4 (by omega)
        have hr : n < (k' : Int) := by omega
        refine ⟨.pointer (some (ad.add (n.toNat * sz))), ?_, ?_, rfl⟩
        · simp [Still, execOp, ho, hx1, hi, Instr.indexAt, asIntOf, run_underlying h1, hc2, hr, runT_sizeOf h2, ← hc1]
        · unfold AVrep
          refine ⟨_, rfl, fun cs hcs h00 => ?_, fun sz' es hes hlt => ?_⟩
          · exact absurd rfl (hxv _ hcs)
          · obtain ⟨g1, g2, g3, g4, g5⟩ := hx5 sz' es hes
            have := g4 (by omega)
            simp only [Option.some.injEq] at this
            rw [this, add_none, g1, Nat.add_mul, Nat.add_zero]
      · cases hv
    · cases hv
  · cases hv

end Cal

/- A calculus of our own, seventh part: loads, lengths, slices, parts: the model does what the evaluator says. No program is named here. -/
set_option linter.unusedSimpArgs false
set_option linter.unusedVariables false
namespace Cal
open Go Go.RowKit

variable {P : Program} {w0 w : World} {S0 S : Nat → Prop} {own : List Nat} {X : Nat → Value} {N : Nat} {m cap : Id → Nat} {st : St} {a : Act}

/-- The cells from a place on hold these values. -/
def Holds (w : World) (b off : Nat) (us : List Value) : Prop := ∀ j u, us[j]? = some u → w.cell? ⟨b, off + j, none⟩ = some u

theorem run_loadFrom (b off : Nat) : ∀ (us : List Value) (i : Nat) (acc : Array Value), Holds w b (off + i) us → (loadCellsFrom ⟨b, off, none⟩ i us.length acc).run P w = .ok (acc ++ us.toArray) w
  | [], i, acc, _ => by simp [loadCellsFrom]
  | u :: us, i, acc, h => by
    have h0 := h 0 u rfl
    have h1 : Holds w b (off + (i + 1)) us := fun j v hv => by
      have := h (j + 1) v (by simpa using hv)
      rw [show off + (i + 1) + j = off + i + (j + 1) by omega]; exact this
    simp only [List.length_cons, loadCellsFrom, add_none]
    have hl : (load ⟨b, off + i, none⟩).run P w = .ok u w := by
      simp only [load, Sem.run]
      rw [show off + i = off + i + 0 by omega, h0]
    simp only [Sem.run_bind, hl, Result.andThen_ok]
    rw [run_loadFrom b off us (i + 1) (acc.push u) h1]
    simp

theorem run_loadAt {t : TypeId} {i : TI} (ht : tinf P t = some i) (b off : Nat) (us : List Value) (hs : us.length = i.size) (h : Holds w b off us) (hone : i.agg = false → ∃ u, us = [u]) :
    (Instr.loadAt t (.pointer (some ⟨b, off, none⟩))).run P w = .ok (if i.agg then .agg us.toArray else us.headD undef) w := by
  unfold Instr.loadAt Instr.sureAddr loadVar
  simp only [Sem.run_bind, Sem.run_pure, Result.andThen_ok, runT_isAgg ht]
  cases hi : i.agg
  · obtain ⟨u, rfl⟩ := hone hi
    have h0 := h 0 u rfl
    simp only [load, Sem.run, if_false, Bool.false_eq_true]
    rw [show off = off + 0 by omega, h0]
    simp
  · simp only [if_true, Sem.run_bind, runT_sizeOf ht, Result.andThen_ok, loadCells]
    rw [← hs, run_loadFrom b off us 0 #[] (by simpa using h)]
    simp

theorem Creps.vals {b : Nat} {ob : Id → Option Ob} : ∀ {off : Nat} {xs : List T}, Creps w S b off xs → ∃ us : List Value, us.length = xs.length ∧ Holds w b off us ∧ AVreps w S m cap ob (xs.map .t) us
  | off, [], _ => ⟨[], rfl, fun j u h => by simp at h, by simp [AVreps]⟩
  | off, x :: xs, h => by
    unfold Creps at h
    obtain ⟨⟨u, h1, h2⟩, h3⟩ := h
    obtain ⟨us, g1, g2, g3⟩ := Creps.vals (ob := ob) h3
    refine ⟨u :: us, by simp [g1], fun j v hv => ?_, ?_⟩
    · cases j with
      | zero => simp at hv; subst hv; exact h1
      | succ j =>
        have := g2 j v (by simpa using hv)
        rw [show off + (j + 1) = off + 1 + j by omega]; exact this
    · simp only [List.map_cons]; unfold AVreps
      exact ⟨u, us, rfl, by unfold AVrep; exact h2, g3⟩

theorem AVreps.len {ob : Id → Option Ob} : ∀ {vs : List AV} {us : List Value}, AVreps w S m cap ob vs us → us.length = vs.length
  | [], us, h => by unfold AVreps at h; simp [h]
  | v :: vs, us, h => by
    unfold AVreps at h
    obtain ⟨u, us', rfl, _, h3⟩ := h
    simp [AVreps.len h3]

theorem AVreps.drop {ob : Id → Option Ob} : ∀ {vs : List AV} {us : List Value}, AVreps w S m cap ob vs us → ∀ j, AVreps w S m cap ob (vs.drop j) (us.drop j)
  | vs, us, h, 0 => by simpa using h
  | [], us, h, j + 1 => by unfold AVreps at h; subst h; simp [AVreps]
  | v :: vs, us, h, j + 1 => by
    unfold AVreps at h
    obtain ⟨u, us', rfl, _, h3⟩ := h
    simpa using AVreps.drop h3 j

theorem AVreps.take {ob : Id → Option Ob} : ∀ {vs : List AV} {us : List Value}, AVreps w S m cap ob vs us → ∀ j, AVreps w S m cap ob (vs.take j) (us.take j)
  | vs, us, h, 0 => by simp [AVreps]
  | [], us, h, j + 1 => by unfold AVreps at h; subst h; simp [AVreps]
  | v :: vs, us, h, j + 1 => by
    unfold AVreps at h
    obtain ⟨u, us', rfl, h2, h3⟩ := h
    rw [List.take_succ_cons, List.take_succ_cons]; unfold AVreps
    exact ⟨u, _, rfl, h2, AVreps.take h3 j⟩

theorem AVreps.get {ob : Id → Option Ob} : ∀ {vs : List AV} {us : List Value}, AVreps w S m cap ob vs us → ∀ {j : Nat} {v : AV}, vs[j]? = some v → ∃ u, us[j]? = some u ∧ AVrep w S m cap ob v u
  | [], us, h, j, v, hv => by simp at hv
  | x :: vs, us, h, j, v, hv => by
    unfold AVreps at h
    obtain ⟨u, us', rfl, h2, h3⟩ := h
    cases j with
    | zero => simp at hv; subst hv; exact ⟨u, rfl, h2⟩
    | succ j =>
      obtain ⟨u', g1, g2⟩ := AVreps.get h3 (j := j) (v := v) (by simpa using hv)
      exact ⟨u', by simpa using g1, g2⟩

/-- One value out of cells. -/
theorem asOne_rep {ob : Id → Option Ob} {agg : Bool} {cs : List AV} {v : AV} {us : List Value} (h : asOne agg cs = some v) (hr : AVreps w S m cap ob cs us) :
    AVrep w S m cap ob v (if agg then .agg us.toArray else us.headD undef) ∧ (agg = false → ∃ u, us = [u]) := by
  unfold asOne at h
  cases agg
  · simp only [Bool.false_eq_true, if_false] at h ⊢
    split at h
    · cases h
      unfold AVreps at hr
      obtain ⟨u, us', rfl, h2, h3⟩ := hr
      unfold AVreps at h3
      subst h3
      exact ⟨h2, fun _ => ⟨u, rfl⟩⟩
    · cases h
  · simp only [if_true] at h ⊢
    cases h
    exact ⟨by unfold AVrep; exact ⟨us, rfl, hr⟩, fun e => by cases e⟩

theorem holds_cells {b : Nat} {arr : Array Value} {ty : TypeId} {fr : Nat × Nat} (h : w.heap[b]? = some (.cells arr ty fr)) (j n : Nat) : Holds w b j ((arr.toList.drop j).take n) := by
  intro k u hu
  unfold World.cell?
  simp only [h]
  rw [List.getElem?_take] at hu
  split at hu
  · rw [List.getElem?_drop] at hu
    simpa using hu
  · cases hu

theorem flatten_get {α : Type} {sz : Nat} : ∀ {es : List (List α)} {i : Nat} {e : List α}, (∀ e ∈ es, e.length = sz) → es[i]? = some e → (es.flatten.drop (i * sz)).take sz = e
  | [], i, e, _, h => by simp at h
  | f :: es, 0, e, hl, h => by
    simp only [List.getElem?_cons_zero, Option.some.injEq] at h
    subst h
    have := hl f (by simp)
    subst this
    simp
  | f :: es, i + 1, e, hl, h => by
    have hf := hl f (by simp)
    subst hf
    have := flatten_get (es := es) (i := i) (e := e) (fun x hx => hl x (by simp [hx])) (by simpa using h)
    rw [List.flatten_cons, Nat.succ_mul, Nat.add_comm, ← List.drop_drop, List.drop_left]
    exact this

theorem flatten_len {α : Type} {sz : Nat} : ∀ {es : List (List α)}, (∀ e ∈ es, e.length = sz) → es.flatten.length = es.length * sz
  | [], _ => by simp
  | f :: es, hl => by
    rw [List.flatten_cons, List.length_append, hl f (by simp), flatten_len fun x hx => hl x (by simp [hx]), List.length_cons, Nat.succ_mul]
    omega

theorem mul_lt_len {i sz n : Nat} (h : i < n) : i * sz + sz ≤ n * sz := by
  rw [← Nat.succ_mul]
  exact Nat.mul_le_mul_right _ h

theorem bigs_load {agg : Bool} {size b i j sz c : Nat} {ob : Id → Option Ob} {es : List (List AV)} {e : List AV} {v : AV} {arr : Array Value} {ty : TypeId} (k1 : w.heap[b]? = some (.cells arr ty (0, 0))) (k2 : arr.size = c * sz) (k3 : AVreps w S m cap ob es.flatten (arr.toList.take (es.length * sz)))
    (k4 : ∀ e ∈ es, e.length = sz) (k5 : es.length ≤ c) (he : es[i]? = some e) (hj : j + size ≤ e.length) (hv : asOne agg ((e.drop j).take size) = some v) :
    ∃ us, us.length = size ∧ Holds w b (i * sz + j) us ∧ AVrep w S m cap ob v (if agg then .agg us.toArray else us.headD undef) ∧ (agg = false → ∃ u, us = [u]) := by
  have hlt := (List.getElem?_eq_some_iff.1 he).1
  have hes := k4 e (List.mem_of_getElem? he)
  have hmul := mul_lt_len (sz := sz) hlt
  have hcm : es.length * sz ≤ c * sz := Nat.mul_le_mul_right _ k5
  have h1 : AVreps w S m cap ob e (((arr.toList.take (es.length * sz)).drop (i * sz)).take sz) := by
    rw [← flatten_get k4 he]
    exact (k3.drop (i * sz)).take sz
  obtain ⟨r1, r2⟩ := asOne_rep hv ((h1.drop j).take size)
  have e1 : (((((arr.toList.take (es.length * sz)).drop (i * sz)).take sz).drop j).take size) = (arr.toList.drop (i * sz + j)).take size := by
    rw [List.drop_take, List.take_take, List.drop_take, List.drop_take, List.take_take, List.drop_drop]
    congr 1
    omega
  rw [e1] at r1 r2
  refine ⟨_, ?_, holds_cells k1 (i * sz + j) size, r1, r2⟩
  rw [List.length_take, List.length_drop, Array.length_toList]
  omega

theorem loadA_ok {agg : Bool} {size : Nat} {x v : AV} {u : Value} (h : RelAt w0 S0 own X N m cap S st a w) (hu : AVrep w S m cap st.ob x u) (hv : loadA st agg size x = some v) :
    ∃ b off us, u = .pointer (some ⟨b, off, none⟩) ∧ us.length = size ∧ Holds w b off us ∧ AVrep w S m cap st.ob v (if agg then .agg us.toArray else us.headD undef) ∧ (agg = false → ∃ u, us = [u]) := by
  unfold loadA at hv
  have rows : ∀ (id : Id) (i j sz : Nat) (es : List (List T)) (e : List T), OwnRow w S (m id) sz es (cap id) → es[i]? = some e → j + size ≤ e.length → asOne agg (((e.drop j).take size).map .t) = some v →
      ∃ us, us.length = size ∧ Holds w (m id) (i * sz + j) us ∧ AVrep w S m cap st.ob v (if agg then .agg us.toArray else us.headD undef) ∧ (agg = false → ∃ u, us = [u]) := by
    intro id i j sz es e ho he hj has
    obtain ⟨_, _, _, hE⟩ := ho
    obtain ⟨g1, g2⟩ := hE.get he
    obtain ⟨us, k1, k2, k3⟩ := ((g2.drop j).take size).vals (m := m) (cap := cap) (ob := st.ob)
    obtain ⟨r1, r2⟩ := asOne_rep has k3
    refine ⟨us, ?_, ?_, r1, r2⟩
    · rw [k1, List.length_take, List.length_drop]; omega
    · rw [show i * sz + j = 0 + i * sz + j by omega]; exact k2
  split at hv
  · rename_i id i j
    unfold AVrep at hu
    obtain ⟨ad, hu1, hu2, hu3⟩ := hu
    split at hv
    · rename_i cs ho
      split at hv
      · rename_i hc
        obtain ⟨hi, hj⟩ := hc
        have had := hu2 cs ho hi
        obtain ⟨⟨arr, ty, k1, k2⟩, _⟩ := h.obs id _ ho
        obtain ⟨r1, r2⟩ := asOne_rep hv ((k2.drop j).take size)
        have hlen := k2.len
        refine ⟨m id, j, _, by rw [hu1, had], ?_, holds_cells k1 j size, r1, r2⟩
        rw [List.length_take, List.length_drop]; omega
      · cases hv
    · rename_i sz es ho
      split at hv
      · rename_i e he
        split at hv
        · rename_i hj
          have hlt := (List.getElem?_eq_some_iff.1 he).1
          have had := hu3 _ _ (by rw [ho]; rfl) hlt
          obtain ⟨us, q1, q2, q3, q4⟩ := rows id i j _ es e (h.obs id _ ho).1 he hj hv
          exact ⟨m id, _, us, by rw [hu1, had], q1, q2, q3, q4⟩
        · cases hv
      · cases hv
    · rename_i sz es ho
      split at hv
      · rename_i e he
        split at hv
        · rename_i hj
          have hlt := (List.getElem?_eq_some_iff.1 he).1
          have had := hu3 _ _ (by rw [ho]; rfl) hlt
          obtain ⟨us, q1, q2, q3, q4⟩ := rows id i j _ es e (h.obs id _ ho).1 he hj hv
          exact ⟨m id, _, us, by rw [hu1, had], q1, q2, q3, q4⟩
        · cases hv
      · cases hv
    · rename_i sz es ho
      split at hv
      · rename_i e he
        split at hv
        · rename_i hj
          have hlt := (List.getElem?_eq_some_iff.1 he).1
          have had := hu3 _ _ (by rw [ho]; rfl) hlt
          obtain ⟨⟨⟨arr, ty, k1, k2, k3, _⟩, k4, k5, k6⟩, _⟩ := h.obs id _ ho
          obtain ⟨us, q1, q2, q3, q4⟩ := bigs_load k1 k2 k3 k4 k5 he hj hv
          exact ⟨m id, _, us, by rw [hu1, had], q1, q2, q3, q4⟩
        · cases hv
      · cases hv
    · cases hv
  · rename_i cs
    unfold AVrep at hu
    obtain ⟨b, off, hu1, hu2, hu3⟩ := hu
    split at hv
    · rename_i hsz
      obtain ⟨us, k1, k2, k3⟩ := (hu3.take size).vals (m := m) (cap := cap) (ob := st.ob)
      obtain ⟨r1, r2⟩ := asOne_rep hv k3
      refine ⟨b, off, us, hu1, ?_, k2, r1, r2⟩
      rw [k1, List.length_take]; omega
    · cases hv
  · cases hv

theorem still_load {o : Oper} {t : TypeId} {x : Operand} (ho : o.op = .load t x) (h : RelAt w0 S0 own X N m cap S st a w) {i : TI} (ht : tinf P t = some i) {v : AV} (hv : loadA st i.agg i.size (st.ev x) = some v) :
    ∃ u, Still P o a w u ∧ AVrep w S m cap st.ob v u := by
  obtain ⟨b, off, us, h1, h2, h3, h4, h5⟩ := loadA_ok h (h.ev x) hv
  refine ⟨_, ?_, h4⟩
  simp [Still, execOp, ho, h1, run_loadAt ht b off us h2 h3 h5]

end Cal

/- A calculus of our own, eighth part: parts of values, strings, lengths, slices of slices, struct literals. No program is named here. -/
set_option linter.unusedSimpArgs false
set_option linter.unusedVariables false
namespace Cal
open Go Go.RowKit

variable {P : Program} {w0 w : World} {S0 S : Nat → Prop} {own : List Nat} {X : Nat → Value} {N : Nat} {m cap : Id → Nat} {st : St} {a : Act}

theorem tkind_str {t : TypeId} (h : tkind P t = .str) : P.underlying t = some .string := by
  unfold tkind at h
  split at h
  · assumption
  · split at h <;> cases h
  · cases h
theorem tkind_sl {t : TypeId} {k : Nat} (h : tkind P t = .sl k) : ∃ e i, P.underlying t = some (.slice e) ∧ tinf P e = some i ∧ i.size = k := by
  unfold tkind at h
  split at h
  · cases h
  · split at h
    · rename_i i hi
      cases h
      exact ⟨_, i, by assumption, hi, rfl⟩
    · cases h
  · cases h

theorem still_field {o : Oper} {t : TypeId} {x : Operand} {f : Nat} (ho : o.op = .field t x f) (h : RelAt w0 S0 own X N m cap S st a w) {v : AV} {e : Eff} (hv : fieldA (foff P t f) (st.ev x) = some (v, e)) :
    ∃ u, Still P o a w u ∧ AVrep w S m cap st.ob v u ∧ e = [] := by
  have hx := h.ev x
  unfold fieldA at hv
  split at hv
  · rename_i off size agg cs hf hp
    obtain ⟨fs, fd, inf, h1, h2, h3, h4, h5, h6⟩ := foff_inv hf
    split at hv
    · rename_i hs
      cases has : asOne agg ((cs.drop off).take size) with
      | none => rw [has] at hv; cases hv
      | some v' =>
        rw [has] at hv
        simp only [Option.map_some, Option.some.injEq, Prod.mk.injEq] at hv
        obtain ⟨rfl, rfl⟩ := hv
        rw [hp] at hx
        unfold AVrep at hx
        obtain ⟨us, hx1, hx2⟩ := hx
        have hlen := hx2.len
        obtain ⟨r1, r2⟩ := asOne_rep has ((hx2.drop off).take size)
        refine ⟨_, ?_, r1, rfl⟩
        cases hagg : agg
        · obtain ⟨u, hu⟩ := r2 hagg
          have h0 : us[off]? = some u := by
            have : ((us.drop off).take size)[0]? = some u := by rw [hu]; rfl
            rw [List.getElem?_take] at this
            split at this
            · rw [List.getElem?_drop] at this
              simpa using this
            · cases this
          have hi : inf.agg = false := by rw [h6, hagg]
          simp [Still, execOp, ho, hx1, Instr.field, run_underlying h1, h2, asAgg, part, runT_isAgg h3, hi, h4, h0, hu]
        · have hi : inf.agg = true := by rw [h6, hagg]
          simp [Still, execOp, ho, hx1, Instr.field, run_underlying h1, h2, asAgg, part, runT_isAgg h3, runT_sizeOf h3, hi, h4, h5, List.take_drop]
    · cases hv
  · cases hv

theorem still_index {o : Oper} {t : TypeId} {x ix : Operand} (ho : o.op = .index t x ix) (h : RelAt w0 S0 own X N m cap S st a w) {v : AV} {e : Eff} (hv : indexA (tkind P t) (st.ev x) (st.ev ix) = some (v, e)) :
    ∃ u, Still P o a w u ∧ AVrep w S m cap st.ob v u ∧ e = [] := by
  have hx := h.ev x
  have hi := h.ev ix
  unfold indexA at hv
  split at hv
  · rename_i s k n hk hs hn
    rw [hs] at hx
    rw [hn] at hi
    obtain ⟨hx, _⟩ := AVrep_v_inv hx
    obtain ⟨hi, _⟩ := AVrep_v_inv hi
    split at hv
    · rename_i h0
      split at hv
      · rename_i b hb
        simp only [Option.some.injEq, Prod.mk.injEq] at hv
        obtain ⟨rfl, rfl⟩ := hv
        exact ⟨.int .u8 b.toNat, by simp [Still, execOp, ho, hx, hi, Instr.index, asIntOf, run_underlying (tkind_str hk), h0, hb], AVrep_v rfl, rfl⟩
      · cases hv
    · cases hv
  · cases hv

theorem still_extract {o : Oper} {x : Operand} {i : Nat} (ho : o.op = .extract x i) (h : RelAt w0 S0 own X N m cap S st a w) {v : AV} {e : Eff} (hv : extractA (st.ev x) i = some (v, e)) :
    ∃ u, Still P o a w u ∧ AVrep w S m cap st.ob v u ∧ e = [] := by
  have hx := h.ev x
  unfold extractA at hv
  split at hv
  · rename_i vs hp
    rw [hp] at hx
    unfold AVrep at hx
    obtain ⟨us, hx1, hx2⟩ := hx
    split at hv
    · rename_i v' hv'
      simp only [Option.some.injEq, Prod.mk.injEq] at hv
      obtain ⟨rfl, rfl⟩ := hv
      obtain ⟨u, g1, g2⟩ := hx2.get hv'
      exact ⟨u, by simp [Still, execOp, ho, hx1, Instr.extract, g1], g2, rfl⟩
    · cases hv
  · cases hv

theorem still_len {o : Oper} {t : TypeId} {x : Operand} (ho : o.op = .call ⟨.builtin .len, #[x], #[t]⟩) (h : RelAt w0 S0 own X N m cap S st a w) {n : Nat} (hv : lenA (tkind P t) (st.ev x) = some n) :
    Still P o a w (.int .i64 n) ∧ AVrep w S m cap st.ob (.t (.v (.int .i64 n))) (.int .i64 n) := by
  refine ⟨?_, AVrep_v rfl⟩
  have hx := h.ev x
  have key : (Builtin.len_ #[t] o.type #[a.eval x]).run P w = .ok (.int .i64 n) w := by
    unfold lenA at hv
    split at hv
    · rename_i s hk hp
      rw [hp] at hx
      obtain ⟨hx, _⟩ := AVrep_v_inv hx
      simp only [Option.some.injEq] at hv
      subst hv
      simp [Builtin.len_, hx, run_underlying (tkind_str hk), goInt]
    · rename_i k hk hp
      obtain ⟨e, i, h1, _, _⟩ := tkind_sl hk
      rw [hp] at hx
      obtain ⟨hx, _⟩ := AVrep_v_inv hx
      simp only [Option.some.injEq] at hv
      subst hv
      simp [Builtin.len_, hx, run_underlying h1, goInt]
    · rename_i k es hk hp
      obtain ⟨e, i, h1, _, _⟩ := tkind_sl hk
      rw [hp] at hx
      unfold AVrep Trep at hx
      obtain ⟨A, n', c, hx1, hx2, _⟩ := hx
      simp only [Option.some.injEq] at hv
      subst hv
      simp [Builtin.len_, hx1, run_underlying h1, goInt, hx2]
    · rename_i k id sz i n' hk hp
      obtain ⟨e, i', h1, _, _⟩ := tkind_sl hk
      rw [hp] at hx
      unfold AVrep at hx
      obtain ⟨A, c, hx1, _⟩ := hx
      simp only [Option.some.injEq] at hv
      subst hv
      simp [Builtin.len_, hx1, run_underlying h1, goInt]
    · cases hv
  simp [Still, execOp, ho, resolve, invoke, builtin, key]

end Cal

/- A calculus of our own, ninth part: new objects, frozen rows, stores. No program is named here. -/
set_option linter.unusedSimpArgs false
set_option linter.unusedVariables false
namespace Cal
open Go Go.RowKit

variable {P : Program} {w0 w : World} {S0 S : Nat → Prop} {own : List Nat} {X : Nat → Value} {N : Nat} {m cap : Id → Nat} {st : St} {a : Act}

/-- The state names no object of this sort, and has none. -/
structure St.Free (s : St) (p : Id → Prop) : Prop where
  tm : ∀ t, (s.tm t).free p
  gh : ∀ t, (s.gh t).free p
  avs : ∀ id o, s.ob id = some o → AV.frees p o.avs
  none : ∀ id, p id → s.ob id = none
theorem St.Free.var {s : St} {p : Id → Prop} (h : s.Free p) (id : Id) (cs : List AV) (hc : s.ob id = some (.var cs)) : AV.frees p cs := h.avs id _ hc

theorem Ob.leads_refl : ∀ o : Option Ob, Ob.leads o o
  | .none => trivial
  | some o => ⟨rfl, id⟩
theorem Ob.leads_none : ∀ o : Option Ob, Ob.leads o none
  | .none => trivial
  | some o => trivial

mutual
theorem AV.free_false : ∀ v : AV, v.free (fun _ => False)
  | .t _ => trivial
  | .row .. => by unfold AV.free; exact id
  | .ptr .. => by unfold AV.free; exact id
  | .roptr _ => trivial
  | .full _ => trivial
  | .agg cs => by unfold AV.free; exact AV.frees_false cs
  | .tup cs => by unfold AV.free; exact AV.frees_false cs
  | .bad => trivial
  | .mp _ => by unfold AV.free; exact id
  | .clo _ xs ys => by unfold AV.free; exact ⟨AV.frees_false xs, AV.frees_false ys⟩
  | .ifc _ x => by unfold AV.free; exact AV.free_false x
theorem AV.frees_false : ∀ vs : List AV, AV.frees (fun _ => False) vs
  | [] => trivial
  | v :: vs => by unfold AV.frees; exact ⟨AV.free_false v, AV.frees_false vs⟩
end

theorem OwnRow.keep {w w' : World} {S S' : Nat → Prop} {b sz cap : Nat} {es : List (List T)} (h : OwnRow w S b sz es cap) (hw : Same S w w') (hs : ∀ b, S b → S' b) (hb : w'.heap[b]? = w.heap[b]?) : OwnRow w' S' b sz es cap := by
  obtain ⟨⟨arr, ty, h1, h2⟩, h3, h4, h5⟩ := h
  exact ⟨⟨arr, ty, by rw [hb]; exact h1, h2⟩, h3, h4, h5.keep hw hs hb⟩

theorem OwnRow.lt {w : World} {S : Nat → Prop} {b sz cap : Nat} {es : List (List T)} (h : OwnRow w S b sz es cap) : b < w.heap.size := by
  obtain ⟨⟨arr, ty, h1, h2⟩, _⟩ := h
  exact (Array.getElem?_eq_some_iff.1 h1).1

theorem ObRep.lt {id : Id} {o : Ob} {ob : Id → Option Ob} (h : ObRep w S m cap ob id o) : m id < w.heap.size := by
  cases o with
  | var cs => obtain ⟨⟨arr, ty, h1, _⟩, _⟩ := h; exact (Array.getElem?_eq_some_iff.1 h1).1
  | row sz es => exact h.1.lt
  | frz sz es => exact h.1.lt
  | big sz es => obtain ⟨⟨⟨arr, ty, h1, _⟩, _⟩, _⟩ := h; exact (Array.getElem?_eq_some_iff.1 h1).1
  | map kd kvs => obtain ⟨⟨us, ⟨⟨es, c, h1, _⟩, _⟩, _⟩, _⟩ := h; exact (Array.getElem?_eq_some_iff.1 h1).1
  | fmap kd kvs => obtain ⟨⟨⟨⟨es, c, h1, _⟩, _⟩, _⟩, _⟩ := h; exact (Array.getElem?_eq_some_iff.1 h1).1

/-- An object is kept while its block is. -/
theorem ObRep.keep {w w' : World} {S S' : Nat → Prop} {m m' cap cap' : Id → Nat} {ob ob' : Id → Option Ob} {p : Id → Prop} {id : Id} {o : Ob} (h : ObRep w S m cap ob id o) (hw : Same S w w') (hs : ∀ b, S b → S' b) (ht : Turn p m m' cap cap' ob ob')
    (hp : ¬ p id) (hf : AV.frees p o.avs) (hb : w'.heap[m id]? = w.heap[m id]?) (hn : ¬ S (m id) → ¬ S' (m id)) : ObRep w' S' m' cap' ob' id o := by
  obtain ⟨e1, e2⟩ := ht.blk id hp
  cases o with
  | var cs =>
    obtain ⟨⟨arr, ty, h1, h2⟩, h4⟩ := h
    unfold ObRep
    rw [e1]
    exact ⟨⟨arr, ty, by rw [hb]; exact h1, AVreps.keep hw hs ht cs _ hf h2⟩, hn h4⟩
  | row sz es =>
    unfold ObRep
    rw [e1, e2]
    exact ⟨h.1.keep hw hs hb, hn h.2⟩
  | frz sz es =>
    unfold ObRep
    rw [e1, e2]
    exact ⟨h.1.keep hw hs hb, hs _ h.2⟩
  | big sz es =>
    obtain ⟨⟨⟨arr, ty, h1, h2, h3, h3'⟩, h4⟩, h5⟩ := h
    unfold ObRep
    rw [e1, e2]
    exact ⟨⟨⟨arr, ty, by rw [hb]; exact h1, h2, AVreps.keep hw hs ht _ _ hf h3, h3'⟩, h4⟩, hn h5⟩
  | map kd kvs =>
    obtain ⟨⟨us, h1, h2⟩, h3⟩ := h
    unfold ObRep
    rw [e1]
    exact ⟨⟨us, h1.keep hb, AVreps.keep hw hs ht _ _ hf h2⟩, hn h3⟩
  | fmap kd kvs =>
    obtain ⟨⟨h1, h2⟩, h3⟩ := h
    unfold ObRep
    rw [e1]
    exact ⟨⟨h1.keep hb, h2⟩, hs _ h3⟩

theorem heap_alloc_old (w : World) (o : Obj) {b : Nat} (h : b < w.heap.size) : (w.alloc o).heap[b]? = w.heap[b]? := Below.heap_alloc w o b h

theorem After.alloc {own : List Nat} {w0 w : World} (h : After own w0 w) (o : Obj) : After own w0 (w.alloc o) :=
  ⟨h.fix, h.os, h.tape, h.output, Nat.le_trans h.size (by simp), fun k hk hn => (heap_alloc_old w o (Nat.lt_of_lt_of_le hk h.size)).trans (h.block k hk hn)⟩

def upd (f : Id → Nat) (id : Id) (n : Nat) : Id → Nat := fun i => if i = id then n else f i

/-- A new object in a new block. -/
theorem RelAt.new (h : RelAt w0 S0 own X N m cap S st a w) {id : Id} (hf : st.Free (· = id)) {x : Obj} {o : Ob} {c : Nat}
    (ho : ObRep (w.alloc x) S (upd m id w.heap.size) (upd cap id c) (st.setOb id (some o)).ob id o) :
    RelAt w0 S0 own X N (upd m id w.heap.size) (upd cap id c) S (st.setOb id (some o)) a (w.alloc x) := by
  have hn := hf.none id rfl
  have hsame : Same S w (w.alloc x) := fun b hb => heap_alloc_old w _ (h.stab b hb)
  have ht : Turn (· = id) m (upd m id w.heap.size) cap (upd cap id c) st.ob (st.setOb id (some o)).ob :=
    ⟨fun i hi => by simp only [St.setOb, if_neg hi]; exact Ob.leads_refl _, fun i hi => by simp [upd, hi]⟩
  have hlt : ∀ i o', st.ob i = some o' → m i < w.heap.size := fun i o' hi => (h.obs i o' hi).lt
  refine ⟨h.size, h.defers, h.after.alloc _, fun b hb => Nat.lt_of_lt_of_le (h.stab b hb) (by simp), h.base, h.fresh, fun i o' hi => ?_, fun i o' hi => ?_, fun i j hi hj he => ?_, fun t => ?_, fun t => ?_⟩
  · by_cases e : i = id
    · subst e
      simp only [St.setOb, if_true] at hi
      cases hi
      exact ho
    · simp only [St.setOb, if_neg e] at hi
      exact (h.obs i o' hi).keep hsame (fun _ hb => hb) ht e (hf.avs i o' hi) (heap_alloc_old w _ (hlt i o' hi)) (fun hx => hx)
  · by_cases e : i = id
    · subst e
      left
      simp only [upd, if_true]
      exact h.after.size
    · simp only [St.setOb, if_neg e] at hi
      simp only [upd, if_neg e]
      exact h.mine i o' hi
  · by_cases e : i = id <;> by_cases e' : j = id
    · rw [e, e']
    · subst e
      simp only [upd, if_true, if_neg e'] at he
      simp only [St.setOb, if_neg e'] at hj
      obtain ⟨o', ho'⟩ := Option.ne_none_iff_exists'.1 hj
      have := hlt j o' ho'
      omega
    · subst e'
      simp only [upd, if_true, if_neg e] at he
      simp only [St.setOb, if_neg e] at hi
      obtain ⟨o', ho'⟩ := Option.ne_none_iff_exists'.1 hi
      have := hlt i o' ho'
      omega
    · simp only [upd, if_neg e, if_neg e'] at he
      simp only [St.setOb, if_neg e] at hi
      simp only [St.setOb, if_neg e'] at hj
      exact h.inj i j hi hj he
  · exact AVrep.keep hsame (fun _ hb => hb) ht _ _ (hf.tm t) (h.tm t)
  · exact AVrep.keep hsame (fun _ hb => hb) ht _ _ (hf.gh t) (h.gh t)

/-- A row that is no longer written: its block joins those that stay. -/
theorem RelAt.freeze (h : RelAt w0 S0 own X N m cap S st a w) {id : Id} {sz : Nat} {es : List (List T)} (ho : st.ob id = some (.row sz es) ∨ st.ob id = some (.frz sz es)) :
    RelAt w0 S0 own X N m cap (fun b => S b ∨ b = m id) (st.setOb id (some (.frz sz es))) a w := by
  have hid : st.ob id ≠ none := by rcases ho with ho | ho <;> rw [ho] <;> simp
  have hsame : Same S w w := Same.refl _ _
  have hsub : ∀ b, S b → S b ∨ b = m id := fun b hb => .inl hb
  have ht : Turn (fun _ => False) m m cap cap st.ob (st.setOb id (some (.frz sz es))).ob := by
    refine ⟨fun i _ => ?_, fun i _ => ⟨rfl, rfl⟩⟩
    by_cases e : i = id
    · subst e
      simp only [St.setOb, if_true]
      rcases ho with ho | ho <;> rw [ho] <;> exact ⟨rfl, fun _ => rfl⟩
    · simp only [St.setOb, if_neg e]; exact Ob.leads_refl _
  have hrow : OwnRow w S (m id) sz es (cap id) := by
    rcases ho with ho | ho
    · exact (h.obs id _ ho).1
    · exact (h.obs id _ ho).1
  have hlive : ∀ i o', (st.setOb id (some (.frz sz es))).ob i = some o' → st.ob i ≠ none := fun i o' hi => by
    by_cases e : i = id
    · subst e; exact hid
    · simp only [St.setOb, if_neg e] at hi; rw [hi]; simp
  have hmine : w0.heap.size ≤ m id ∨ m id ∈ own := by
    rcases ho with ho | ho <;> exact h.mine id _ ho
  refine ⟨h.size, h.defers, h.after, fun b hb => ?_, fun b hb => .inl (h.base b hb), fun b hb => ?_, fun i o' hi => ?_, fun i o' hi => ?_, fun i j hi hj he => ?_, fun t => ?_, fun t => ?_⟩
  · rcases hb with hb | rfl
    · exact h.stab b hb
    · exact hrow.lt
  · rcases hb with hb | rfl
    · exact h.fresh b hb
    · exact .inr hmine
  · by_cases e : i = id
    · subst e
      simp only [St.setOb, if_true] at hi
      cases hi
      exact ⟨hrow.keep hsame hsub rfl, .inr rfl⟩
    · simp only [St.setOb, if_neg e] at hi
      refine (h.obs i o' hi).keep hsame hsub ht (fun hx => hx) (AV.frees_false _) rfl fun hn hb => ?_
      rcases hb with hb | hb
      · exact hn hb
      · exact e (h.inj i id (by rw [hi]; simp) hid hb)
  · by_cases e : i = id
    · subst e; exact hmine
    · simp only [St.setOb, if_neg e] at hi; exact h.mine i o' hi
  · obtain ⟨o1, h1⟩ := Option.ne_none_iff_exists'.1 hi
    obtain ⟨o2, h2⟩ := Option.ne_none_iff_exists'.1 hj
    exact h.inj i j (hlive i o1 h1) (hlive j o2 h2) he
  · exact AVrep.keep hsame hsub ht _ _ (AV.free_false _) (h.tm t)
  · exact AVrep.keep hsame hsub ht _ _ (AV.free_false _) (h.gh t)


/-! ### the state behind kills -/
mutual
theorem AV.kill_free (ds : List Nat) : ∀ v : AV, (v.kill ds).free (fun id => id.1 ∈ ds)
  | .t _ => by unfold AV.kill; trivial
  | .row id sz i n => by
    unfold AV.kill
    split
    · trivial
    · unfold AV.free; assumption
  | .ptr id i j => by
    unfold AV.kill
    split
    · trivial
    · unfold AV.free; assumption
  | .roptr _ => by unfold AV.kill; trivial
  | .full _ => by unfold AV.kill; trivial
  | .agg cs => by unfold AV.kill AV.free; exact AV.kills_free ds cs
  | .tup cs => by unfold AV.kill AV.free; exact AV.kills_free ds cs
  | .bad => by unfold AV.kill; trivial
  | .mp id => by
    unfold AV.kill
    split
    · trivial
    · unfold AV.free; assumption
  | .clo _ xs ys => by unfold AV.kill AV.free; exact ⟨AV.kills_free ds xs, AV.kills_free ds ys⟩
  | .ifc _ x => by unfold AV.kill AV.free; exact AV.kill_free ds x
theorem AV.kills_free (ds : List Nat) : ∀ vs : List AV, AV.frees (fun id => id.1 ∈ ds) (AV.kills ds vs)
  | [] => by unfold AV.kills; trivial
  | v :: vs => by unfold AV.kills AV.frees; exact ⟨AV.kill_free ds v, AV.kills_free ds vs⟩
end

mutual
theorem AV.kill_rep {ob : Id → Option Ob} (ds : List Nat) : ∀ (v : AV) (u : Value), AVrep w S m cap ob v u → AVrep w S m cap ob (v.kill ds) u
  | .t _, u, h => by unfold AV.kill; exact h
  | .row id sz i n, u, h => by
    unfold AV.kill
    split
    · unfold AVrep; trivial
    · exact h
  | .ptr id i j, u, h => by
    unfold AV.kill
    split
    · unfold AVrep; trivial
    · exact h
  | .roptr _, u, h => by unfold AV.kill; exact h
  | .full _, u, h => by unfold AV.kill; exact h
  | .agg cs, u, h => by
    unfold AV.kill AVrep at *
    obtain ⟨us, h1, h2⟩ := h
    exact ⟨us, h1, AV.kills_rep ds cs us h2⟩
  | .tup cs, u, h => by
    unfold AV.kill AVrep at *
    obtain ⟨us, h1, h2⟩ := h
    exact ⟨us, h1, AV.kills_rep ds cs us h2⟩
  | .bad, u, h => by unfold AV.kill; exact h
  | .mp id, u, h => by
    unfold AV.kill
    split
    · unfold AVrep; trivial
    · exact h
  | .clo _ xs ys, u, h => by
    unfold AV.kill AVrep at *
    obtain ⟨us, vs, h1, h2, h3⟩ := h
    exact ⟨us, vs, h1, AV.kills_rep ds xs us h2, AV.kills_rep ds ys vs h3⟩
  | .ifc _ x, u, h => by
    unfold AV.kill AVrep at *
    obtain ⟨y, h1, h2⟩ := h
    exact ⟨y, h1, AV.kill_rep ds x y h2⟩
theorem AV.kills_rep {ob : Id → Option Ob} (ds : List Nat) : ∀ (vs : List AV) (us : List Value), AVreps w S m cap ob vs us → AVreps w S m cap ob (AV.kills ds vs) us
  | [], us, h => by unfold AV.kills; exact h
  | v :: vs, us, h => by
    unfold AV.kills AVreps at *
    obtain ⟨u, us', h1, h2, h3⟩ := h
    exact ⟨u, us', h1, AV.kill_rep ds v u h2, AV.kills_rep ds vs us' h3⟩
end

theorem AV.kills_length (ds : List Nat) : ∀ vs : List AV, (AV.kills ds vs).length = vs.length
  | [] => by unfold AV.kills; rfl
  | v :: vs => by unfold AV.kills; simp [AV.kills_length ds vs]


theorem AV.kills_append (ds : List Nat) : ∀ vs ws : List AV, AV.kills ds (vs ++ ws) = AV.kills ds vs ++ AV.kills ds ws
  | [], ws => by simp [AV.kills]
  | v :: vs, ws => by simp only [List.cons_append, AV.kills]; rw [AV.kills_append ds vs ws]
theorem AV.kills_flatten (ds : List Nat) : ∀ es : List (List AV), AV.kills ds es.flatten = (es.map (AV.kills ds)).flatten
  | [] => by simp [AV.kills]
  | e :: es => by simp only [List.flatten_cons, List.map_cons]; rw [AV.kills_append, AV.kills_flatten ds es]
theorem AV.kills_map (ds : List Nat) : ∀ kvs : List (MK × AV), AV.kills ds (kvs.map (·.2)) = (kvs.map fun p => (p.1, p.2.kill ds)).map (·.2)
  | [] => by simp [AV.kills]
  | p :: kvs => by simp only [List.map_cons]; unfold AV.kills; rw [AV.kills_map ds kvs]
theorem Ob.kill_avs (ds : List Nat) (o : Ob) : (o.kill ds).avs = AV.kills ds o.avs := by
  cases o with
  | var cs => rfl
  | row sz es => simp [Ob.kill, Ob.avs, AV.kills]
  | frz sz es => simp [Ob.kill, Ob.avs, AV.kills]
  | big sz es => simp only [Ob.kill, Ob.avs]; rw [AV.kills_flatten]
  | map kd kvs => simp only [Ob.kill, Ob.avs]; rw [AV.kills_map]
  | fmap kd kvs => simp [Ob.kill, Ob.avs, AV.kills]
theorem Ob.kill_shape (ds : List Nat) (o : Ob) : (o.kill ds).shape = o.shape ∧ (o.kill ds).cold = o.cold := by
  cases o <;> simp [Ob.kill, Ob.shape, Ob.cold, AV.kills_length]

theorem St.kill_free (s : St) (ds : List Nat) : (s.kill ds).Free (fun id => id.1 ∈ ds) := by
  unfold St.kill
  split
  · rename_i h
    subst h
    have e : (fun id : Id => id.1 ∈ ([] : List Nat)) = fun _ => False := by funext id; simp
    rw [e]
    exact ⟨fun t => AV.free_false _, fun t => AV.free_false _, fun _ o _ => AV.frees_false _, fun _ h => h.elim⟩
  · refine ⟨fun t => AV.kill_free ds _, fun t => AV.kill_free ds _, fun id o hc => ?_, fun id hid => by simp [hid]⟩
    dsimp only at hc
    split at hc
    · cases hc
    · cases ho : s.ob id with
      | none => rw [ho] at hc; cases hc
      | some o1 =>
        rw [ho] at hc
        simp only [Option.map_some, Option.some.injEq] at hc
        subst hc
        rw [Ob.kill_avs]
        exact AV.kills_free ds _

theorem RelAt.kill (h : RelAt w0 S0 own X N m cap S st a w) (ds : List Nat) : RelAt w0 S0 own X N m cap S (st.kill ds) a w := by
  unfold St.kill
  split
  · exact h
  · have ht : Turn (fun _ => False) m m cap cap st.ob (fun id => if id.1 ∈ ds then none else (st.ob id).map (Ob.kill ds)) := by
      refine ⟨fun i _ => ?_, fun i _ => ⟨rfl, rfl⟩⟩
      split
      · exact Ob.leads_none _
      · cases st.ob i with
        | none => trivial
        | some o =>
          obtain ⟨e1, e2⟩ := Ob.kill_shape ds o
          exact ⟨e1.symm, fun hc => by rw [e2]; exact hc⟩
    have hlive : ∀ i o', (fun id : Id => if id.1 ∈ ds then none else (st.ob id).map (Ob.kill ds)) i = some o' → ∃ o, st.ob i = some o ∧ o' = o.kill ds := fun i o' hi => by
      dsimp only at hi
      split at hi
      · cases hi
      · cases ho : st.ob i with
        | none => rw [ho] at hi; cases hi
        | some o =>
          rw [ho] at hi
          simp only [Option.map_some, Option.some.injEq] at hi
          exact ⟨o, rfl, hi.symm⟩
    refine ⟨h.size, h.defers, h.after, h.stab, h.base, h.fresh, fun i o' hi => ?_, fun i o' hi => ?_, fun i j hi hj he => ?_, fun t => ?_, fun t => ?_⟩
    · obtain ⟨o, ho, rfl⟩ := hlive i o' hi
      have := (h.obs i o ho).keep (Same.refl _ _) (fun _ hb => hb) ht (fun hx => hx) (AV.frees_false _) rfl (fun hx => hx)
      cases o with
      | var cs =>
        obtain ⟨⟨arr, ty, h1, h2⟩, h4⟩ := this
        exact ⟨⟨arr, ty, h1, AV.kills_rep ds cs _ h2⟩, h4⟩
      | row sz es => exact this
      | frz sz es => exact this
      | big sz es =>
        obtain ⟨⟨⟨arr, ty, h1, h2, h3, h3'⟩, h4, h5, h6⟩, h7⟩ := this
        refine ⟨⟨⟨arr, ty, h1, h2, ?_, by rw [List.length_map]; exact h3'⟩, fun e he => ?_, by simpa using h5, h6⟩, h7⟩
        · rw [List.length_map, ← AV.kills_flatten]
          exact AV.kills_rep ds _ _ h3
        · obtain ⟨e', he', rfl⟩ := List.mem_map.1 he
          rw [AV.kills_length]
          exact h4 e' he'
      | map kd kvs =>
        obtain ⟨⟨us, h1, h2⟩, h3⟩ := this
        refine ⟨⟨us, ?_, ?_⟩, h3⟩
        · rw [List.map_map]; exact h1
        · rw [← AV.kills_map]
          exact AV.kills_rep ds _ _ h2
      | fmap kd kvs => exact this
    · obtain ⟨o, ho, _⟩ := hlive i o' hi
      exact h.mine i o ho
    · obtain ⟨o1, h1⟩ := Option.ne_none_iff_exists'.1 hi
      obtain ⟨o2, h2⟩ := Option.ne_none_iff_exists'.1 hj
      obtain ⟨_, k1, _⟩ := hlive i o1 h1
      obtain ⟨_, k2, _⟩ := hlive j o2 h2
      exact h.inj i j (by rw [k1]; simp) (by rw [k2]; simp) he
    · exact AVrep.keep (Same.refl _ _) (fun _ hb => hb) ht _ _ (by
        have := AV.free_false ((st.tm t).kill ds)
        exact this) (AV.kill_rep ds _ _ (h.tm t))
    · exact AVrep.keep (Same.refl _ _) (fun _ hb => hb) ht _ _ (by
        have := AV.free_false ((st.gh t).kill ds)
        exact this) (AV.kill_rep ds _ _ (h.gh t))

/-! ### stores -/
theorem heap_set_self {w : World} {b : Nat} {arr : Array Value} {ty : TypeId} (h : w.heap[b]? = some (.cells arr ty (0, 0))) (off : Nat) (u : Value) :
    (w.setCell ⟨b, off, none⟩ u).heap[b]? = some (.cells (arr.setIfInBounds off u) ty (0, 0)) := by
  simp only [World.setCell, Array.getElem?_modify, if_true, h, Option.map_some]
  rfl

theorem run_store1 {w : World} {b : Nat} {arr : Array Value} {ty : TypeId} (h : w.heap[b]? = some (.cells arr ty (0, 0))) {off : Nat} (hoff : off < arr.size) (u : Value) (hu : (∀ cs, u ≠ .agg cs) ∧ ∀ cs, u ≠ .tuple cs) :
    (store ⟨b, off, none⟩ u).run P w = .ok () (w.setCell ⟨b, off, none⟩ u) := by
  have hc : w.cell? ⟨b, off, none⟩ = some arr[off] := by
    unfold World.cell?
    simp only [h]
    simp [hoff]
  have hf : w.frozen? ⟨b, off, none⟩ = false := by
    unfold World.frozen?
    simp only [h]
    simp
  cases u with
  | agg cs => exact absurd rfl (hu.1 cs)
  | tuple cs => exact absurd rfl (hu.2 cs)
  | _ => simp [store, Sem.run, hc, hf]

/-- Cells written one behind the other. -/
def putAll (arr : Array Value) (off : Nat) : List Value → Array Value
  | [] => arr
  | u :: us => putAll (arr.setIfInBounds off u) (off + 1) us

theorem putAll_size : ∀ (us : List Value) (arr : Array Value) (off : Nat), (putAll arr off us).size = arr.size
  | [], _, _ => rfl
  | u :: us, arr, off => by unfold putAll; rw [putAll_size us]; simp

theorem run_storeFrom {b : Nat} {ty : TypeId} (off0 : Nat) : ∀ (us : List Value) (i : Nat) (w : World) (arr : Array Value), w.heap[b]? = some (.cells arr ty (0, 0)) → off0 + i + us.length ≤ arr.size → (∀ u ∈ us, Single u) →
    ∃ w', (storeCells ⟨b, off0, none⟩ us i).run P w = .ok () w' ∧ w'.heap[b]? = some (.cells (putAll arr (off0 + i) us) ty (0, 0)) ∧ (∀ k, k ≠ b → w'.heap[k]? = w.heap[k]?) ∧
      w'.os = w.os ∧ w'.tape = w.tape ∧ w'.output = w.output ∧ w'.heap.size = w.heap.size
  | [], i, w, arr, h, _, _ => ⟨w, by simp [storeCells], h, fun _ _ => rfl, rfl, rfl, rfl, rfl⟩
  | u :: us, i, w, arr, h, hl, hs => by
    simp only [List.length_cons] at hl
    have h1 := run_store1 (P := P) h (off := off0 + i) (by omega) u (hs u (by simp))
    obtain ⟨w', g1, g2, g3, g4, g5, g6, g7⟩ := run_storeFrom off0 us (i + 1) (w.setCell ⟨b, off0 + i, none⟩ u) (arr.setIfInBounds (off0 + i) u) (heap_set_self h _ _) (by simp; omega) (fun x hx => hs x (by simp [hx]))
    refine ⟨w', ?_, g2, fun k hk => ?_, g4, g5, g6, ?_⟩
    · simp only [storeCells, add_none, Sem.run_bind, h1, Result.andThen_ok]
      exact g1
    · rw [g3 k hk]
      exact Below.heap_setCell _ _ _ _ hk
    · rw [g7]; simp [World.setCell]

end Cal

/- A calculus of our own, tenth part: boxes, variables, slice literals: the model does what the evaluator says. No program is named here. -/
set_option linter.unusedSimpArgs false
set_option linter.unusedVariables false
namespace Cal
open Go Go.RowKit

variable {P : Program} {w0 w : World} {S0 S : Nat → Prop} {own : List Nat} {X : Nat → Value} {N : Nat} {m cap : Id → Nat} {st : St} {a : Act}

mutual
theorem AV.free_mono {p q : Id → Prop} (hq : ∀ id, q id → p id) : ∀ v : AV, v.free p → v.free q
  | .t _, _ => trivial
  | .row id sz i n, h => by unfold AV.free at *; exact fun hx => h (hq id hx)
  | .ptr id i j, h => by unfold AV.free at *; exact fun hx => h (hq id hx)
  | .roptr _, _ => trivial
  | .full _, _ => trivial
  | .agg cs, h => by unfold AV.free at *; exact AV.frees_mono hq cs h
  | .tup cs, h => by unfold AV.free at *; exact AV.frees_mono hq cs h
  | .bad, _ => trivial
  | .mp id, h => by unfold AV.free at *; exact fun hx => h (hq id hx)
  | .clo _ xs ys, h => by unfold AV.free at *; exact ⟨AV.frees_mono hq xs h.1, AV.frees_mono hq ys h.2⟩
  | .ifc _ x, h => by unfold AV.free at *; exact AV.free_mono hq x h
theorem AV.frees_mono {p q : Id → Prop} (hq : ∀ id, q id → p id) : ∀ vs : List AV, AV.frees p vs → AV.frees q vs
  | [], _ => trivial
  | v :: vs, h => by unfold AV.frees at *; exact ⟨AV.free_mono hq v h.1, AV.frees_mono hq vs h.2⟩
end

theorem St.Free.mono {s : St} {p q : Id → Prop} (h : s.Free p) (hq : ∀ id, q id → p id) : s.Free q :=
  ⟨fun t => AV.free_mono hq _ (h.tm t), fun t => AV.free_mono hq _ (h.gh t), fun id o hc => AV.frees_mono hq _ (h.avs id o hc), fun id hid => h.none id (hq id hid)⟩

theorem AV.frees_map_t (p : Id → Prop) : ∀ xs : List T, AV.frees p (xs.map .t)
  | [] => trivial
  | x :: xs => by simp only [List.map_cons]; unfold AV.frees; exact ⟨trivial, AV.frees_map_t p xs⟩
theorem AV.frees_vals (p : Id → Prop) : ∀ xs : List Value, AV.frees p (xs.map fun u => .t (.v u))
  | [] => trivial
  | x :: xs => by simp only [List.map_cons]; unfold AV.frees; exact ⟨trivial, AV.frees_vals p xs⟩

theorem cst_free (p : Id → Prop) (x : Value) : (cst x).free p := by
  unfold cst
  split
  · split
    · unfold AV.free; exact AV.frees_vals p _
    · trivial
  · split <;> trivial

theorem St.Free.ev {s : St} {p : Id → Prop} (h : s.Free p) (x : Operand) : (s.ev x).free p := by
  cases x with
  | tmp t => exact h.tm t
  | const v => exact cst_free p v
  | global g => trivial
  | func f => trivial

theorem AV.cells_free {p : Id → Prop} {v : AV} (h : v.free p) : AV.frees p v.cells := by
  cases v <;> first | (unfold AV.cells; unfold AV.free at h; exact h) | (unfold AV.cells AV.frees; exact ⟨h, trivial⟩)

theorem plain_single {u : Value} (h : plain u = true) : Single u := by
  cases u <;> first | (simp [plain] at h; done) | (exact ⟨(fun _ e => by cases e), (fun _ e => by cases e)⟩)

theorem Trep_single {x : T} {u : Value} (h : Trep w S x u) : Single u := by
  cases x with
  | v x =>
    unfold Trep at h
    rw [h.1]; exact plain_single h.2
  | sl es =>
    unfold Trep at h
    obtain ⟨A, n, c, rfl, _⟩ := h
    exact ⟨(fun _ e => by cases e), (fun _ e => by cases e)⟩
  | mp kd kvs =>
    unfold Trep at h
    obtain ⟨b, rfl, _⟩ := h
    exact ⟨(fun _ e => by cases e), (fun _ e => by cases e)⟩

theorem one_single {v : AV} {u : Value} {ob : Id → Option Ob} (h : AVrep w S m cap ob v u) (h1 : v.one = true) : Single u := by
  cases v with
  | t x => unfold AVrep at h; exact Trep_single h
  | row id sz i n =>
    unfold AVrep at h
    obtain ⟨A, c, rfl, _⟩ := h
    exact ⟨(fun _ e => by cases e), (fun _ e => by cases e)⟩
  | ptr id i j =>
    unfold AVrep at h
    obtain ⟨ad, rfl, _⟩ := h
    exact ⟨(fun _ e => by cases e), (fun _ e => by cases e)⟩
  | mp id =>
    unfold AVrep at h
    obtain ⟨ad, rfl, _⟩ := h
    exact ⟨(fun _ e => by cases e), (fun _ e => by cases e)⟩
  | clo f xs ys =>
    unfold AVrep at h
    obtain ⟨us, vs, rfl, _⟩ := h
    exact ⟨(fun _ e => by cases e), (fun _ e => by cases e)⟩
  | ifc ty x =>
    unfold AVrep at h
    obtain ⟨y, rfl, _⟩ := h
    exact ⟨(fun _ e => by cases e), (fun _ e => by cases e)⟩
  | _ => simp [AV.one] at h1

theorem cells_of_single {u : Value} (h : Single u) : u.cells = #[u] := by
  cases u <;> first | rfl | exact absurd rfl (h.1 _)

theorem all_single {ob : Id → Option Ob} : ∀ {vs : List AV} {us : List Value}, AVreps w S m cap ob vs us → vs.all AV.one = true → ∀ u ∈ us, Single u
  | [], us, h, _ => by unfold AVreps at h; subst h; simp
  | v :: vs, us, h, h1 => by
    unfold AVreps at h
    obtain ⟨u, us', rfl, h2, h3⟩ := h
    simp only [List.all_cons, Bool.and_eq_true] at h1
    intro x hx
    rcases List.mem_cons.1 hx with rfl | hx
    · exact one_single h2 h1.1
    · exact all_single h3 h1.2 x hx

/-- A value's cells stand for the abstract one's. -/
theorem cells_rep {v : AV} {u : Value} {ob : Id → Option Ob} (h : AVrep w S m cap ob v u) (h1 : v.cells.all AV.one = true) : AVreps w S m cap ob v.cells u.cells.toList ∧ ∀ x ∈ u.cells.toList, Single x := by
  have key : AVreps w S m cap ob v.cells u.cells.toList := by
    cases v with
    | agg cs =>
      unfold AVrep at h
      obtain ⟨us, rfl, h2⟩ := h
      exact h2
    | bad => simp [AV.cells, AV.one] at h1
    | roptr cs => simp [AV.cells, AV.one] at h1
    | full cs => simp [AV.cells, AV.one] at h1
    | tup cs => simp [AV.cells, AV.one] at h1
    | t x =>
      have hs := one_single h rfl
      rw [cells_of_single hs]
      unfold AV.cells AVreps
      exact ⟨u, [], rfl, h, by simp [AVreps]⟩
    | row id sz i n =>
      have hs := one_single h rfl
      rw [cells_of_single hs]
      unfold AV.cells AVreps
      exact ⟨u, [], rfl, h, by simp [AVreps]⟩
    | mp id =>
      have hs := one_single h rfl
      rw [cells_of_single hs]
      unfold AV.cells AVreps
      exact ⟨u, [], rfl, h, by simp [AVreps]⟩
    | clo f xs ys =>
      have hs := one_single h rfl
      rw [cells_of_single hs]
      unfold AV.cells AVreps
      exact ⟨u, [], rfl, h, by simp [AVreps]⟩
    | ifc ty x =>
      have hs := one_single h rfl
      rw [cells_of_single hs]
      unfold AV.cells AVreps
      exact ⟨u, [], rfl, h, by simp [AVreps]⟩
    | ptr id i j =>
      have hs := one_single h rfl
      rw [cells_of_single hs]
      unfold AV.cells AVreps
      exact ⟨u, [], rfl, h, by simp [AVreps]⟩
  exact ⟨key, all_single key h1⟩

theorem upd_same (f : Id → Nat) (id : Id) (n : Nat) : upd f id n id = n := by simp [upd]

/-- A new variable. -/
theorem RelAt.newVar (h : RelAt w0 S0 own X N m cap S st a w) {d : Nat} (hf : st.Free (·.1 = d)) {cs : List AV} {arr : Array Value} {ty : TypeId} (hr : AVreps w S m cap st.ob cs arr.toList) (hcf : AV.frees (·.1 = d) cs) :
    RelAt w0 S0 own X N (upd m (d, 0) w.heap.size) (upd cap (d, 0) 0) S (st.setOb (d, 0) (some (.var cs))) a (w.alloc (.cells arr ty)) ∧
    AVrep (w.alloc (.cells arr ty)) S (upd m (d, 0) w.heap.size) (upd cap (d, 0) 0) (st.setOb (d, 0) (some (.var cs))).ob (.ptr (d, 0) 0 0) (.pointer (some ⟨w.heap.size, 0, none⟩)) := by
  have hf1 : st.Free (· = (d, 0)) := hf.mono fun id hid => by rw [hid]
  have hsame : Same S w (w.alloc (.cells arr ty)) := fun b hb => heap_alloc_old w _ (h.stab b hb)
  have hn := hf1.none _ rfl
  have ht : Turn (· = (d, 0)) m (upd m (d, 0) w.heap.size) cap (upd cap (d, 0) 0) st.ob (st.setOb (d, 0) (some (.var cs))).ob :=
    ⟨fun i hi => by simp only [St.setOb, if_neg hi]; exact Ob.leads_refl _, fun i hi => by simp [upd, hi]⟩
  constructor
  · refine h.new hf1 ⟨⟨arr, ty, ?_, AVreps.keep hsame (fun _ hb => hb) ht cs _ (AV.frees_mono (fun id hid => by rw [hid]) cs hcf) hr⟩, ?_⟩
    · rw [upd_same]; exact MapKept.heap_alloc w _ |>.1
    · rw [upd_same]; exact fun hb => Nat.lt_irrefl _ (h.stab _ hb)
  · unfold AVrep
    refine ⟨_, rfl, fun cs' hc _ => by rw [upd_same], fun sz es hc _ => ?_⟩
    simp [St.setOb, Ob.ext] at hc

/-- The model's operation gives this value and leaves that world. -/
def Gives (P : Program) (o : Oper) (a : Act) (w : World) (u : Value) (w' : World) : Prop := (execOp a.eval o).run P w = .ok (.value u) w' ∨ ((execOp a.eval o).run P w = .ok .skip w' ∧ u = undef)

/-- Blocks are kept, but for the new objects. -/
def Far (d : Nat) (m m' cap cap' : Id → Nat) : Prop := ∀ id : Id, id.1 ≠ d → m' id = m id ∧ cap' id = cap id
theorem Far.refl (d : Nat) (m cap : Id → Nat) : Far d m m cap cap := fun _ _ => ⟨rfl, rfl⟩
theorem Far.upd (d k g c : Nat) (m cap : Id → Nat) : Far d m (upd m (d, k) g) cap (upd cap (d, k) c) := fun id hid => by
  have : id ≠ (d, k) := fun e => hid (by rw [e])
  simp [Cal.upd, this]

theorem gives_box {o : Oper} {e : TypeId} {x : Operand} (ho : o.op = .box e x) (h : RelAt w0 S0 own X N m cap S st a w) {d : Nat} (hf : st.Free (·.1 = d)) (h1 : (st.ev x).cells.all AV.one = true) :
    ∃ u w' m' cap', Gives P o a w u w' ∧ RelAt w0 S0 own X N m' cap' S (st.setOb (d, 0) (some (.var (st.ev x).cells))) a w' ∧ AVrep w' S m' cap' (st.setOb (d, 0) (some (.var (st.ev x).cells))).ob (.ptr (d, 0) 0 0) u ∧ Far d m m' cap cap' := by
  obtain ⟨hr, _⟩ := cells_rep (h.ev x) h1
  obtain ⟨k1, k2⟩ := h.newVar (ty := e) hf hr (AV.cells_free (hf.ev x))
  exact ⟨_, _, _, _, .inl (by simp [execOp, ho, Instr.box, newVar, newRow, newObj, Sem.run]), k1, k2, Far.upd _ _ _ _ _ _⟩

theorem gives_alloc {o : Oper} {t : TypeId} (ho : o.op = .alloc t) (h : RelAt w0 S0 own X N m cap S st a w) {d : Nat} (hf : st.Free (·.1 = d)) {i : TI} (ht : tinf P t = some i) (hp : i.zero.all plain = true) :
    ∃ u w' m' cap', Gives P o a w u w' ∧ RelAt w0 S0 own X N m' cap' S (st.setOb (d, 0) (some (.var (i.zero.map fun x => .t (.v x))))) a w' ∧ AVrep w' S m' cap' (st.setOb (d, 0) (some (.var (i.zero.map fun x => .t (.v x))))).ob (.ptr (d, 0) 0 0) u ∧ Far d m m' cap cap' := by
  obtain ⟨z, hz1, hz2⟩ := runT_zeroValue ht w
  have hr : AVreps w S m cap st.ob (i.zero.map fun x => .t (.v x)) z.cells.toList := by
    rw [hz2]
    exact AVreps_plain fun x hx => List.all_eq_true.1 hp x hx
  obtain ⟨k1, k2⟩ := h.newVar (ty := t) hf hr (AV.frees_vals _ _)
  exact ⟨_, _, _, _, .inl (by simp [execOp, ho, Instr.alloc, hz1, newVar, newRow, newObj, Sem.run]), k1, k2, Far.upd _ _ _ _ _ _⟩

end Cal

/- A calculus of our own, eleventh part: frozen values, slice literals, stores. No program is named here. -/
set_option linter.unusedSimpArgs false
set_option linter.unusedVariables false
namespace Cal
open Go Go.RowKit

variable {P : Program} {w0 w : World} {S0 S : Nat → Prop} {own : List Nat} {X : Nat → Value} {N : Nat} {m cap : Id → Nat} {st : St} {a : Act}

/-- s' has what s has, but that some rows are frozen. -/
def Froze (s s' : St) : Prop := (s'.tm = s.tm ∧ s'.gh = s.gh) ∧ ∀ id, s'.ob id = s.ob id ∨ (∃ sz es, (s.ob id = some (.row sz es) ∨ s.ob id = some (.frz sz es)) ∧ s'.ob id = some (.frz sz es)) ∨
  ∃ kd kvs r, (s.ob id = some (.map kd kvs) ∧ flatVals kvs = some r ∨ s.ob id = some (.fmap kd r)) ∧ s'.ob id = some (.fmap kd r)
theorem Froze.leads {s s' : St} (h : Froze s s') (id : Id) : Ob.leads (s.ob id) (s'.ob id) := by
  rcases h.2 id with e | ⟨sz, es, e1, e2⟩ | ⟨kd, kvs, r, e1, e2⟩
  · rw [e]; exact Ob.leads_refl _
  · rw [e2]; rcases e1 with e1 | e1 <;> rw [e1] <;> exact ⟨rfl, fun _ => rfl⟩
  · rw [e2]; rcases e1 with ⟨e1, _⟩ | e1 <;> rw [e1] <;> exact ⟨rfl, fun _ => rfl⟩
theorem Froze.live {s s' : St} (h : Froze s s') {id : Id} (hid : s'.ob id ≠ none) : s.ob id ≠ none := Ob.leads_live (h.leads id) hid
theorem Froze.avs {s s' : St} (h : Froze s s') {id : Id} {o : Ob} (ho : s'.ob id = some o) : s.ob id = some o ∨ o.avs = [] := by
  rcases h.2 id with e | ⟨sz, es, e1, e2⟩ | ⟨kd, kvs, r, e1, e2⟩
  · left; rw [← e]; exact ho
  · right; rw [e2] at ho; cases ho; rfl
  · right; rw [e2] at ho; cases ho; rfl

theorem Froze.refl (s : St) : Froze s s := ⟨⟨rfl, rfl⟩, fun _ => .inl rfl⟩
theorem Froze.look {s s' : St} (h : Froze s s') {id : Id} {sz : Nat} {es : List (List T)} (ho : s.ob id = some (.row sz es) ∨ s.ob id = some (.frz sz es)) : s'.ob id = some (.row sz es) ∨ s'.ob id = some (.frz sz es) := by
  rcases h.2 id with e | ⟨sz', es', e1, e2⟩ | ⟨kd, kvs, r, e1, e2⟩
  · rw [e]; exact ho
  · right
    rcases ho with ho | ho <;> rcases e1 with e1 | e1 <;> rw [ho] at e1 <;> cases e1 <;> exact e2
  · rcases ho with ho | ho <;> rcases e1 with ⟨e1, _⟩ | e1 <;> rw [ho] at e1 <;> cases e1
theorem Froze.lookM {s s' : St} (h : Froze s s') {id : Id} {kd : Nat} {r : List (MK × Value)} (ho : (∃ kvs, s.ob id = some (.map kd kvs) ∧ flatVals kvs = some r) ∨ s.ob id = some (.fmap kd r)) :
    (∃ kvs, s'.ob id = some (.map kd kvs) ∧ flatVals kvs = some r) ∨ s'.ob id = some (.fmap kd r) := by
  rcases h.2 id with e | ⟨sz', es', e1, e2⟩ | ⟨kd', kvs', r', e1, e2⟩
  · rw [e]; exact ho
  · rcases ho with ⟨kvs, ho, _⟩ | ho <;> rcases e1 with e1 | e1 <;> rw [ho] at e1 <;> cases e1
  · right
    rcases ho with ⟨kvs, ho, hr⟩ | ho <;> rcases e1 with ⟨e1, hr'⟩ | e1 <;> rw [ho] at e1 <;> cases e1
    · rw [hr] at hr'; cases hr'; exact e2
    · exact e2

theorem flatVals_inv : ∀ {kvs : List (MK × AV)} {r : List (MK × Value)}, flatVals kvs = some r → kvs = r.map fun p => (p.1, AV.t (.v p.2))
  | [], r, h => by
    unfold flatVals at h
    cases h
    rfl
  | (k, v) :: l, r, h => by
    unfold flatVals at h
    split at h
    · rename_i e; cases e
    · rename_i k' x l' e
      cases e
      cases hl : flatVals l with
      | none => simp [hl] at h
      | some r' =>
        simp only [hl, Option.map_some, Option.some.injEq] at h
        subst h
        rw [flatVals_inv hl]
        rfl
    · cases h

theorem flat_vals_rep {ob : Id → Option Ob} : ∀ {r : List (MK × Value)} {us : List Value}, AVreps w S m cap ob ((r.map fun p => (p.1, AV.t (.v p.2))).map (·.2)) us → us = r.map (·.2) ∧ ∀ p ∈ r, plain p.2 = true
  | [], us, h => by
    simp only [List.map_nil] at h
    unfold AVreps at h
    exact ⟨h, by simp⟩
  | p :: r, us, h => by
    simp only [List.map_cons] at h
    unfold AVreps at h
    obtain ⟨u, us', rfl, h1, h2⟩ := h
    obtain ⟨rfl, hp⟩ := AVrep_v_inv h1
    obtain ⟨rfl, g2⟩ := flat_vals_rep (r := r) h2
    refine ⟨rfl, fun q hq => ?_⟩
    rcases List.mem_cons.1 hq with rfl | hq
    · exact hp
    · exact g2 q hq

theorem vals_flat_rep {ob : Id → Option Ob} : ∀ {r : List (MK × Value)}, (∀ p ∈ r, plain p.2 = true) → AVreps w S m cap ob ((r.map fun p => (p.1, AV.t (.v p.2))).map (·.2)) (r.map (·.2))
  | [], _ => by simp [AVreps]
  | p :: r, h => by
    simp only [List.map_cons]
    unfold AVreps
    exact ⟨_, _, rfl, AVrep_v (h p (by simp)), vals_flat_rep (r := r) fun q hq => h q (by simp [hq])⟩

theorem map_flat_rep (h : RelAt w0 S0 own X N m cap S st a w) {id : Id} {kd : Nat} {r : List (MK × Value)} (ho : (∃ kvs, st.ob id = some (.map kd kvs) ∧ flatVals kvs = some r) ∨ st.ob id = some (.fmap kd r)) :
    MapAt w (m id) kd (r.map (·.1)) (r.map (·.2)) ∧ ∀ p ∈ r, plain p.2 = true := by
  rcases ho with ⟨kvs, ho, hr⟩ | ho
  · obtain ⟨⟨us, h1, h2⟩, _⟩ := h.obs id _ ho
    have e := flatVals_inv hr
    subst e
    obtain ⟨rfl, g2⟩ := flat_vals_rep h2
    refine ⟨?_, g2⟩
    have : ((r.map fun p => (p.1, AV.t (.v p.2))).map (·.1)) = r.map (·.1) := by rw [List.map_map]; rfl
    rw [this] at h1
    exact h1
  · exact (h.obs id _ ho).1

theorem toT_rep (h : RelAt w0 S0 own X N m cap S st a w) {v : AV} {x : T} {u : Value} (hx : st.toT v = some x) (hu : AVrep w S m cap st.ob v u) (hS : ∀ id, (∃ sz i n, v = .row id sz i n) ∨ v = .mp id → S (m id)) : Trep w S x u := by
  unfold St.toT at hx
  split at hx
  · cases hx; unfold AVrep at hu; exact hu
  · rename_i id sz i n
    have key : ∀ sz' es, (st.ob id = some (.row sz' es) ∨ st.ob id = some (.frz sz' es)) → Trep w S (.sl (window es i n)) u := by
      intro sz' es ho
      have hrow : OwnRow w S (m id) sz' es (cap id) := by
        rcases ho with ho | ho
        · exact (h.obs id _ ho).1
        · exact (h.obs id _ ho).1
      unfold AVrep at hu
      obtain ⟨A, c, h1, h2, h3, h4, _, h5⟩ := hu
      obtain ⟨rfl, g2, g3, g4, g5⟩ := h5 sz' es.length (by rcases ho with ho | ho <;> rw [ho] <;> rfl)
      unfold Trep
      refine ⟨A, n, c, h1, ?_, h2, h3, fun hn => ?_⟩
      · unfold window; rw [List.length_take, List.length_drop]; omega
      · refine ⟨m id, i * sz', sz', g4 (by omega), hS id (.inl ⟨_, i, n, rfl⟩), ?_⟩
        unfold window
        have := (hrow.2.2.2.drop i).take n
        rw [Nat.zero_add] at this
        exact this
    split at hx
    · rename_i ho; cases hx; exact key _ _ (.inl ho)
    · rename_i ho; cases hx; exact key _ _ (.inr ho)
    · cases hx
  · rename_i id
    unfold AVrep at hu
    obtain ⟨b, hu1, hu2⟩ := hu
    have key : ∀ kd r, ((∃ kvs, st.ob id = some (.map kd kvs) ∧ flatVals kvs = some r) ∨ st.ob id = some (.fmap kd r)) → Trep w S (.mp kd r) u := by
      intro kd r ho
      obtain ⟨g1, g2⟩ := map_flat_rep h ho
      have hb : b = m id := hu2 (by rcases ho with ⟨kvs, ho, _⟩ | ho <;> rw [ho] <;> simp)
      subst hb
      unfold Trep
      exact ⟨_, hu1, hS id (.inr rfl), g1, g2⟩
    split at hx
    · rename_i kd kvs ho
      cases hr : flatVals kvs with
      | none => simp [hr] at hx
      | some r =>
        simp only [hr, Option.map_some, Option.some.injEq] at hx
        subst hx
        exact key _ _ (.inl ⟨_, ho, hr⟩)
    · rename_i kd kvs ho; cases hx; exact key _ _ (.inr ho)
    · cases hx
  · cases hx

theorem eff_append (s : St) : ∀ (f g : Eff), s.eff (f ++ g) = (s.eff f).eff g
  | [], g => rfl
  | (id, o) :: f, g => by simp only [List.cons_append]; exact eff_append (s.setOb id o) f g

/-- A map that is no longer written: its block joins those that stay. -/
theorem RelAt.freezeM (h : RelAt w0 S0 own X N m cap S st a w) {id : Id} {kd : Nat} {r : List (MK × Value)} (ho : (∃ kvs, st.ob id = some (.map kd kvs) ∧ flatVals kvs = some r) ∨ st.ob id = some (.fmap kd r)) :
    RelAt w0 S0 own X N m cap (fun b => S b ∨ b = m id) (st.setOb id (some (.fmap kd r))) a w := by
  have hid : st.ob id ≠ none := by rcases ho with ⟨_, ho, _⟩ | ho <;> rw [ho] <;> simp
  have hsame : Same S w w := Same.refl _ _
  have hsub : ∀ b, S b → S b ∨ b = m id := fun b hb => .inl hb
  have ht : Turn (fun _ => False) m m cap cap st.ob (st.setOb id (some (.fmap kd r))).ob := by
    refine ⟨fun i _ => ?_, fun i _ => ⟨rfl, rfl⟩⟩
    by_cases e : i = id
    · subst e
      simp only [St.setOb, if_true]
      rcases ho with ⟨_, ho, _⟩ | ho <;> rw [ho] <;> exact ⟨rfl, fun _ => rfl⟩
    · simp only [St.setOb, if_neg e]; exact Ob.leads_refl _
  have hrow := map_flat_rep h ho
  have hlt : m id < w.heap.size := by
    obtain ⟨o, hh⟩ := Option.ne_none_iff_exists'.1 hid
    exact (h.obs id o hh).lt
  have hlive : ∀ i o', (st.setOb id (some (.fmap kd r))).ob i = some o' → st.ob i ≠ none := fun i o' hi => by
    by_cases e : i = id
    · subst e; exact hid
    · simp only [St.setOb, if_neg e] at hi; rw [hi]; simp
  have hmine : w0.heap.size ≤ m id ∨ m id ∈ own := by
    obtain ⟨o, hh⟩ := Option.ne_none_iff_exists'.1 hid
    exact h.mine id o hh
  refine ⟨h.size, h.defers, h.after, fun b hb => ?_, fun b hb => .inl (h.base b hb), fun b hb => ?_, fun i o' hi => ?_, fun i o' hi => ?_, fun i j hi hj he => ?_, fun t => ?_, fun t => ?_⟩
  · rcases hb with hb | rfl
    · exact h.stab b hb
    · exact hlt
  · rcases hb with hb | rfl
    · exact h.fresh b hb
    · exact .inr hmine
  · by_cases e : i = id
    · subst e
      simp only [St.setOb, if_true] at hi
      cases hi
      exact ⟨hrow, .inr rfl⟩
    · simp only [St.setOb, if_neg e] at hi
      refine (h.obs i o' hi).keep hsame hsub ht (fun hx => hx) (AV.frees_false _) rfl fun hn hb => ?_
      rcases hb with hb | hb
      · exact hn hb
      · exact e (h.inj i id (by rw [hi]; simp) hid hb)
  · by_cases e : i = id
    · subst e; exact hmine
    · simp only [St.setOb, if_neg e] at hi; exact h.mine i o' hi
  · obtain ⟨o1, h1⟩ := Option.ne_none_iff_exists'.1 hi
    obtain ⟨o2, h2⟩ := Option.ne_none_iff_exists'.1 hj
    exact h.inj i j (hlive i o1 h1) (hlive j o2 h2) he
  · exact AVrep.keep hsame hsub ht _ _ (AV.free_false _) (h.tm t)
  · exact AVrep.keep hsame hsub ht _ _ (AV.free_false _) (h.gh t)

/-- Freezing what one value names. -/
theorem freeze_one (h : RelAt w0 S0 own X N m cap S st a w) {s0 : St} (hz : Froze s0 st) {v : AV} (hv : (s0.toT v).isSome) :
    ∃ S', RelAt w0 S0 own X N m cap S' (st.eff (s0.frzEff v)) a w ∧ (∀ b, S b → S' b) ∧ Froze s0 (st.eff (s0.frzEff v)) ∧ ∀ id, (∃ sz i n, v = .row id sz i n) ∨ v = .mp id → S' (m id) := by
  cases v with
  | t x => exact ⟨S, h, fun _ hb => hb, hz, fun id hid => by rcases hid with ⟨_, _, _, e⟩ | e <;> cases e⟩
  | row id sz i n =>
    cases ho : s0.ob id with
    | none => simp [St.toT, ho] at hv
    | some o =>
      cases o with
      | row sz' es =>
        have e0 : s0.frzEff (.row id sz i n) = [(id, some (.frz sz' es))] := by simp [St.frzEff, ho]
        rw [e0]
        refine ⟨_, h.freeze (hz.look (.inl ho)), fun b hb => .inl hb, ⟨hz.1, fun j => ?_⟩, fun j hj => ?_⟩
        · by_cases e : j = id
          · subst e
            exact .inr (.inl ⟨sz', es, .inl ho, by simp [St.eff, St.setOb]⟩)
          · have := hz.2 j
            simpa [St.eff, St.setOb, e] using this
        · rcases hj with ⟨_, _, _, e⟩ | e <;> cases e
          exact .inr rfl
      | frz sz' es =>
        have e0 : s0.frzEff (.row id sz i n) = [] := by simp [St.frzEff, ho]
        rw [e0]
        refine ⟨S, h, fun _ hb => hb, hz, fun j hj => ?_⟩
        rcases hj with ⟨_, _, _, e⟩ | e <;> cases e
        have hst : st.ob id = some (.frz sz' es) := by
          rcases hz.2 id with e1 | ⟨sz1, es1, e1, e2⟩ | ⟨kd, kvs, r, e1, e2⟩
          · rw [e1, ho]
          · rw [ho] at e1
            rcases e1 with e1 | e1 <;> cases e1
            exact e2
          · rw [ho] at e1
            rcases e1 with ⟨e1, _⟩ | e1 <;> cases e1
        exact (h.obs id _ hst).2
      | _ => simp [St.toT, ho] at hv
  | mp id =>
    cases ho : s0.ob id with
    | none => simp [St.toT, ho] at hv
    | some o =>
      cases o with
      | map kd kvs =>
        cases hr : flatVals kvs with
        | none => simp [St.toT, ho, hr] at hv
        | some r =>
          have e0 : s0.frzEff (.mp id) = [(id, some (.fmap kd r))] := by simp [St.frzEff, ho, hr]
          rw [e0]
          refine ⟨_, h.freezeM (hz.lookM (.inl ⟨_, ho, hr⟩)), fun b hb => .inl hb, ⟨hz.1, fun j => ?_⟩, fun j hj => ?_⟩
          · by_cases e : j = id
            · subst e
              exact .inr (.inr ⟨kd, kvs, r, .inl ⟨ho, hr⟩, by simp [St.eff, St.setOb]⟩)
            · have := hz.2 j
              simpa [St.eff, St.setOb, e] using this
          · rcases hj with ⟨_, _, _, e⟩ | e <;> cases e
            exact .inr rfl
      | fmap kd r =>
        have e0 : s0.frzEff (.mp id) = [] := by simp [St.frzEff, ho]
        rw [e0]
        refine ⟨S, h, fun _ hb => hb, hz, fun j hj => ?_⟩
        rcases hj with ⟨_, _, _, e⟩ | e <;> cases e
        have hst : st.ob id = some (.fmap kd r) := by
          rcases hz.2 id with e1 | ⟨sz1, es1, e1, e2⟩ | ⟨kd', kvs', r', e1, e2⟩
          · rw [e1, ho]
          · rw [ho] at e1
            rcases e1 with e1 | e1 <;> cases e1
          · rw [ho] at e1
            rcases e1 with ⟨e1, _⟩ | e1 <;> cases e1
            exact e2
        exact (h.obs id _ hst).2
      | _ => simp [St.toT, ho] at hv
  | _ => simp [St.toT] at hv

/-- Freezing what a list of values names. -/
theorem freeze_all (h : RelAt w0 S0 own X N m cap S st a w) {s0 : St} : ∀ (vs : List AV), Froze s0 st → (∀ v ∈ vs, (s0.toT v).isSome) →
    ∃ S', RelAt w0 S0 own X N m cap S' (st.eff (s0.frzEffs vs)) a w ∧ (∀ b, S b → S' b) ∧ Froze s0 (st.eff (s0.frzEffs vs)) ∧ ∀ id, (∃ sz i n, AV.row id sz i n ∈ vs) ∨ AV.mp id ∈ vs → S' (m id) := by
  intro vs
  induction vs generalizing st S with
  | nil => exact fun hz _ => ⟨S, h, fun _ hb => hb, hz, fun _ hm => by rcases hm with ⟨_, _, _, hm⟩ | hm <;> simp at hm⟩
  | cons v vs ih =>
    intro hz hv
    unfold St.frzEffs
    rw [eff_append]
    obtain ⟨S1, g1, g2, g3, g4⟩ := freeze_one h hz (hv v (by simp))
    obtain ⟨S2, k1, k2, k3, k4⟩ := ih g1 g3 fun x hx => hv x (by simp [hx])
    refine ⟨S2, k1, fun b hb => k2 b (g2 b hb), k3, fun id hm => ?_⟩
    rcases hm with ⟨sz, i, n, hm⟩ | hm
    · rcases List.mem_cons.1 hm with e | hm
      · exact k2 _ (g4 id (.inl ⟨sz, i, n, e.symm⟩))
      · exact k4 id (.inl ⟨sz, i, n, hm⟩)
    · rcases List.mem_cons.1 hm with e | hm
      · exact k2 _ (g4 id (.inr e.symm))
      · exact k4 id (.inr hm)

theorem toTs_some {s : St} : ∀ {vs : List AV} {xs : List T}, s.toTs vs = some xs → xs.length = vs.length ∧ (∀ v ∈ vs, (s.toT v).isSome) ∧ ∀ (j : Nat) (v : AV), vs[j]? = some v → ∃ x, xs[j]? = some x ∧ s.toT v = some x
  | [], xs, h => by
    unfold St.toTs at h
    cases h
    exact ⟨rfl, by simp, by simp⟩
  | v :: vs, xs, h => by
    unfold St.toTs at h
    split at h
    · rename_i x xs' h1 h2
      cases h
      obtain ⟨g1, g2, g3⟩ := toTs_some h2
      refine ⟨by simp [g1], fun y hy => ?_, fun j y hy => ?_⟩
      · rcases List.mem_cons.1 hy with rfl | hy
        · simp [h1]
        · exact g2 y hy
      · cases j with
        | zero => simp at hy; subst hy; exact ⟨x, rfl, h1⟩
        | succ j => exact g3 j y (by simpa using hy)
    · cases h

theorem toT_froze {s0 s : St} (hz : Froze s0 s) {v : AV} {x : T} (h : s0.toT v = some x) : s.toT v = some x := by
  unfold St.toT at h ⊢
  cases v with
  | t y => exact h
  | row id sz i n =>
    dsimp only at h ⊢
    cases ho : s0.ob id with
    | none => rw [ho] at h; cases h
    | some o =>
      rw [ho] at h
      cases o with
      | row sz' es =>
        cases h
        rcases hz.look (.inl ho) with e | e <;> rw [e]
      | frz sz' es =>
        cases h
        rcases hz.look (.inr ho) with e | e <;> rw [e]
      | _ => cases h
  | mp id =>
    dsimp only at h ⊢
    cases ho : s0.ob id with
    | none => rw [ho] at h; cases h
    | some o =>
      rw [ho] at h
      cases o with
      | map kd kvs =>
        dsimp only at h
        cases hr : flatVals kvs with
        | none => simp [hr] at h
        | some r =>
          simp only [hr, Option.map_some, Option.some.injEq] at h
          subst h
          rcases hz.lookM (.inl ⟨_, ho, hr⟩) with ⟨kvs', e, hr'⟩ | e <;> rw [e]
          simp [hr']
      | fmap kd r =>
        cases h
        rcases hz.lookM (.inr ho) with ⟨kvs', e, hr'⟩ | e <;> rw [e]
        simp [hr']
      | _ => cases h
  | _ => cases h

/-- Frozen, the values of a list stand for pure cells. -/
theorem toTs_rep (h : RelAt w0 S0 own X N m cap S st a w) {s0 : St} (hz : Froze s0 st) : ∀ {vs : List AV} {us : List Value} {xs : List T}, s0.toTs vs = some xs → AVreps w S m cap st.ob vs us →
    (∀ id, (∃ sz i n, AV.row id sz i n ∈ vs) ∨ AV.mp id ∈ vs → S (m id)) → Treps w S xs us
  | [], us, xs, hx, hu, _ => by
    unfold St.toTs at hx
    cases hx
    unfold AVreps at hu
    subst hu
    unfold Treps; trivial
  | v :: vs, us, xs, hx, hu, hS => by
    unfold St.toTs at hx
    split at hx
    · rename_i x xs' h1 h2
      cases hx
      unfold AVreps at hu
      obtain ⟨u, us', rfl, g1, g2⟩ := hu
      unfold Treps
      refine ⟨?_, toTs_rep h hz h2 g2 fun id hm => hS id (by rcases hm with ⟨sz, i, n, hm⟩ | hm; exact .inl ⟨sz, i, n, by simp [hm]⟩; exact .inr (by simp [hm]))⟩
      exact toT_rep h (toT_froze hz h1) g1 fun id hm => hS id (by rcases hm with ⟨sz, i, n, hm⟩ | hm; exact .inl ⟨sz, i, n, by simp [hm]⟩; exact .inr (by simp [hm]))
    · cases hx

end Cal

/- A calculus of our own, twelfth part: stores: the model does what the evaluator says. No program is named here. -/
set_option linter.unusedSimpArgs false
set_option linter.unusedVariables false
namespace Cal
open Go Go.RowKit

variable {P : Program} {w0 w : World} {S0 S : Nat → Prop} {own : List Nat} {X : Nat → Value} {N : Nat} {m cap : Id → Nat} {st : St} {a : Act}

theorem putAll_get : ∀ (us : List Value) (arr : Array Value) (off k : Nat), off + us.length ≤ arr.size → (putAll arr off us)[k]? = if off ≤ k ∧ k < off + us.length then us[k - off]? else arr[k]?
  | [], arr, off, k, _ => by
    unfold putAll
    rw [if_neg (by simp)]
  | u :: us, arr, off, k, h => by
    simp only [List.length_cons] at h ⊢
    unfold putAll
    rw [putAll_get us _ (off + 1) k (by simp; omega)]
    by_cases h1 : k = off
    · subst h1
      rw [if_neg (by omega), if_pos (by omega)]
      simp [Array.getElem?_setIfInBounds, show k < arr.size by omega]
    · by_cases h2 : off + 1 ≤ k ∧ k < off + 1 + us.length
      · rw [if_pos h2, if_pos (by omega)]
        rw [show k - off = (k - (off + 1)) + 1 by omega]
        simp
      · rw [if_neg h2, if_neg (by omega), Array.getElem?_setIfInBounds_ne (fun e => h1 e.symm)]

theorem Creps_iff {b : Nat} : ∀ {off : Nat} {xs : List T}, Creps w S b off xs ↔ ∀ (j : Nat) (x : T), xs[j]? = some x → ∃ u, w.cell? ⟨b, off + j, none⟩ = some u ∧ Trep w S x u
  | off, [] => by simp [Creps]
  | off, x :: xs => by
    unfold Creps
    rw [Creps_iff (off := off + 1) (xs := xs)]
    constructor
    · rintro ⟨h1, h2⟩ j y hy
      cases j with
      | zero => simp at hy; subst hy; exact h1
      | succ j =>
        rw [show off + (j + 1) = off + 1 + j by omega]
        exact h2 j y (by simpa using hy)
    · intro h
      refine ⟨h 0 x rfl, fun j y hy => ?_⟩
      rw [show off + 1 + j = off + (j + 1) by omega]
      exact h (j + 1) y (by simpa using hy)

theorem Ereps_iff {b : Nat} : ∀ {off sz : Nat} {es : List (List T)}, Ereps w S b off sz es ↔ ∀ (i : Nat) (e : List T), es[i]? = some e → e.length = sz ∧ Creps w S b (off + i * sz) e
  | off, sz, [] => by simp [Ereps]
  | off, sz, e :: es => by
    unfold Ereps
    rw [Ereps_iff (off := off + sz) (es := es)]
    constructor
    · rintro ⟨h1, h2, h3⟩ i f hf
      cases i with
      | zero => simp at hf; subst hf; exact ⟨h1, by simpa using h2⟩
      | succ i =>
        rw [show off + (i + 1) * sz = off + sz + i * sz by rw [Nat.succ_mul]; omega]
        exact h3 i f (by simpa using hf)
    · intro h
      have h0 := h 0 e rfl
      refine ⟨h0.1, by simpa using h0.2, fun i f hf => ?_⟩
      rw [show off + sz + i * sz = off + (i + 1) * sz by rw [Nat.succ_mul]; omega]
      exact h (i + 1) f (by simpa using hf)

theorem AVreps_iff {ob : Id → Option Ob} : ∀ {vs : List AV} {us : List Value}, AVreps w S m cap ob vs us ↔ us.length = vs.length ∧ ∀ (j : Nat) (v : AV) (u : Value), vs[j]? = some v → us[j]? = some u → AVrep w S m cap ob v u
  | [], us => by
    unfold AVreps
    constructor
    · rintro rfl; simp
    · rintro ⟨h, _⟩; exact List.length_eq_zero_iff.1 h
  | v :: vs, us => by
    unfold AVreps
    constructor
    · rintro ⟨u, us', rfl, h1, h2⟩
      obtain ⟨g1, g2⟩ := AVreps_iff.1 h2
      refine ⟨by simp [g1], fun j x y hx hy => ?_⟩
      cases j with
      | zero => simp at hx hy; subst hx; subst hy; exact h1
      | succ j => exact g2 j x y (by simpa using hx) (by simpa using hy)
    · rintro ⟨h1, h2⟩
      cases us with
      | nil => simp at h1
      | cons u us' =>
        exact ⟨u, us', rfl, h2 0 v u rfl rfl, AVreps_iff.2 ⟨by simpa using h1, fun j x y hx hy => h2 (j + 1) x y (by simpa using hx) (by simpa using hy)⟩⟩

theorem Treps_iff : ∀ {xs : List T} {us : List Value}, Treps w S xs us ↔ us.length = xs.length ∧ ∀ (j : Nat) (x : T) (u : Value), xs[j]? = some x → us[j]? = some u → Trep w S x u
  | [], [] => by simp [Treps]
  | [], u :: us => by simp [Treps]
  | x :: xs, [] => by simp [Treps]
  | x :: xs, u :: us => by
    unfold Treps
    rw [Treps_iff (xs := xs) (us := us)]
    constructor
    · rintro ⟨h1, h2, h3⟩
      refine ⟨by simp [h2], fun j y v hy hv => ?_⟩
      cases j with
      | zero => simp at hy hv; subst hy; subst hv; exact h1
      | succ j => exact h3 j y v (by simpa using hy) (by simpa using hv)
    · rintro ⟨h1, h2⟩
      exact ⟨h2 0 x u rfl rfl, by simpa using h1, fun j y v hy hv => h2 (j + 1) y v (by simpa using hy) (by simpa using hv)⟩

theorem over_length {cs ns : List AV} {off : Nat} (h : off + ns.length ≤ cs.length) : (over cs off ns).length = cs.length := by
  unfold over; simp; omega
theorem overT_length {cs ns : List T} {off : Nat} (h : off + ns.length ≤ cs.length) : (overT cs off ns).length = cs.length := by
  unfold overT; simp; omega
theorem over_get {cs ns : List AV} {off k : Nat} (h : off + ns.length ≤ cs.length) : (over cs off ns)[k]? = if off ≤ k ∧ k < off + ns.length then ns[k - off]? else cs[k]? := by
  unfold over
  rw [List.append_assoc]
  by_cases h1 : k < off
  · rw [if_neg (by omega), List.getElem?_append_left (by simp; omega), List.getElem?_take, if_pos h1]
  · rw [List.getElem?_append_right (by simp; omega)]
    have e : (List.take off cs).length = off := by simp; omega
    rw [e]
    by_cases h2 : k < off + ns.length
    · rw [if_pos ⟨by omega, h2⟩, List.getElem?_append_left (by omega)]
    · rw [if_neg (by omega), List.getElem?_append_right (by omega), List.getElem?_drop]
      congr 1; omega
theorem overT_get {cs ns : List T} {off k : Nat} (h : off + ns.length ≤ cs.length) : (overT cs off ns)[k]? = if off ≤ k ∧ k < off + ns.length then ns[k - off]? else cs[k]? := by
  unfold overT
  rw [List.append_assoc]
  by_cases h1 : k < off
  · rw [if_neg (by omega), List.getElem?_append_left (by simp; omega), List.getElem?_take, if_pos h1]
  · rw [List.getElem?_append_right (by simp; omega)]
    have e : (List.take off cs).length = off := by simp; omega
    rw [e]
    by_cases h2 : k < off + ns.length
    · rw [if_pos ⟨by omega, h2⟩, List.getElem?_append_left (by omega)]
    · rw [if_neg (by omega), List.getElem?_append_right (by omega), List.getElem?_drop]
      congr 1; omega

/-- An object whose block has been written. -/
theorem RelAt.wrote {w' : World} (h : RelAt w0 S0 own X N m cap S st a w) {id : Id} {o o' : Ob} (ho : st.ob id = some o) (hS : ¬ S (m id)) (hl : Ob.leads (some o) (some o')) (hk : ∀ k, k ≠ m id → w'.heap[k]? = w.heap[k]?)
    (h1 : w'.os = w.os) (h2 : w'.tape = w.tape) (h3 : w'.output = w.output) (h4 : w'.heap.size = w.heap.size) (hr : ObRep w' S m cap (st.setOb id (some o')).ob id o') :
    RelAt w0 S0 own X N m cap S (st.setOb id (some o')) a w' := by
  have hsame : Same S w w' := fun b hb => hk b fun e => hS (e ▸ hb)
  have ht : Turn (fun _ => False) m m cap cap st.ob (st.setOb id (some o')).ob := by
    refine ⟨fun i _ => ?_, fun i _ => ⟨rfl, rfl⟩⟩
    by_cases e : i = id
    · subst e; simp only [St.setOb, if_true]; rw [ho]; exact hl
    · simp only [St.setOb, if_neg e]; exact Ob.leads_refl _
  have hlive : ∀ i o1, (st.setOb id (some o')).ob i = some o1 → st.ob i ≠ none := fun i o1 hi => by
    by_cases e : i = id
    · subst e; rw [ho]; simp
    · simp only [St.setOb, if_neg e] at hi; rw [hi]; simp
  refine ⟨h.size, h.defers, ⟨h.after.fix, h1.trans h.after.os, h2.trans h.after.tape, h3.trans h.after.output, by rw [h4]; exact h.after.size, fun k hkk hno => ?_⟩, fun b hb => by rw [h4]; exact h.stab b hb, h.base, h.fresh, fun i o1 hi => ?_, fun i o1 hi => ?_, fun i j hi hj he => ?_, fun t => ?_, fun t => ?_⟩
  · rw [hk k fun e => ?_]
    · exact h.after.block k hkk hno
    · rcases h.mine id o ho with hm | hm
      · omega
      · exact hno (e ▸ hm)
  · by_cases e : i = id
    · subst e
      simp only [St.setOb, if_true] at hi
      cases hi
      exact hr
    · simp only [St.setOb, if_neg e] at hi
      exact (h.obs i o1 hi).keep hsame (fun _ hb => hb) ht (fun hx => hx) (AV.frees_false _) (hk _ fun e' => e (h.inj i id (by rw [hi]; simp) (by rw [ho]; simp) e')) (fun hx => hx)
  · obtain ⟨o2, h2'⟩ := Option.ne_none_iff_exists'.1 (hlive i o1 hi)
    exact h.mine i o2 h2'
  · obtain ⟨o1, h1'⟩ := Option.ne_none_iff_exists'.1 hi
    obtain ⟨o2, h2'⟩ := Option.ne_none_iff_exists'.1 hj
    exact h.inj i j (hlive i o1 h1') (hlive j o2 h2') he
  · exact AVrep.keep hsame (fun _ hb => hb) ht _ _ (AV.free_false _) (h.tm t)
  · exact AVrep.keep hsame (fun _ hb => hb) ht _ _ (AV.free_false _) (h.gh t)

end Cal

/- A calculus of our own, thirteenth part: a store. No program is named here. -/
set_option linter.unusedSimpArgs false
set_option linter.unusedVariables false
namespace Cal
open Go Go.RowKit

variable {P : Program} {w0 w : World} {S0 S : Nat → Prop} {own : List Nat} {X : Nat → Value} {N : Nat} {m cap : Id → Nat} {st : St} {a : Act}

theorem run_storeAt {t : TypeId} {i : TI} (ht : tinf P t = some i) {b off : Nat} {u : Value} {arr : Array Value} {ty : TypeId} (hb : w.heap[b]? = some (.cells arr ty (0, 0))) (hs : u.cells.size = i.size) (hoff : off + i.size ≤ arr.size) (h1 : ∀ x ∈ u.cells.toList, Single x) :
    ∃ w', (Instr.storeAt t (.pointer (some ⟨b, off, none⟩)) u).run P w = .ok () w' ∧ w'.heap[b]? = some (.cells (putAll arr off u.cells.toList) ty (0, 0)) ∧ (∀ k, k ≠ b → w'.heap[k]? = w.heap[k]?) ∧
      w'.os = w.os ∧ w'.tape = w.tape ∧ w'.output = w.output ∧ w'.heap.size = w.heap.size := by
  obtain ⟨w', g1, g2⟩ := run_storeFrom (P := P) off u.cells.toList 0 w arr hb (by simp; omega) h1
  refine ⟨w', ?_, g2⟩
  unfold Instr.storeAt Instr.sureAddr storeVar
  simp only [Sem.run_bind, Sem.run_pure, Result.andThen_ok, runT_sizeOf ht, hs]
  simp [g1]

theorem noRow_tail {id : Id} {v : AV} {vs : List AV} (h : noRow id (v :: vs) = true) : noRow id vs = true := by
  cases v <;> simp only [noRow, Bool.and_eq_true] at h <;> first | exact h | exact h.2

theorem noRow_ne {id : Id} : ∀ {vs : List AV}, noRow id vs = true → ∀ id' : Id, (∃ sz i n, AV.row id' sz i n ∈ vs) ∨ AV.mp id' ∈ vs → id' ≠ id
  | [], _, _, hm => by rcases hm with ⟨_, _, _, hm⟩ | hm <;> simp at hm
  | v :: vs, h, id', hm => by
    by_cases hh : (∃ sz i n, AV.row id' sz i n ∈ vs) ∨ AV.mp id' ∈ vs
    · exact noRow_ne (noRow_tail h) id' hh
    · rcases hm with ⟨sz, i, n, hm⟩ | hm
      · rcases List.mem_cons.1 hm with e | hm
        · subst e
          simp only [noRow, Bool.and_eq_true, bne_iff_ne, ne_eq] at h
          exact h.1
        · exact absurd (.inl ⟨sz, i, n, hm⟩) hh
      · rcases List.mem_cons.1 hm with e | hm
        · subst e
          simp only [noRow, Bool.and_eq_true, bne_iff_ne, ne_eq] at h
          exact h.1
        · exact absurd (.inr hm) hh

theorem frz_other {s : St} {id : Id} : ∀ {vs : List AV}, noRow id vs = true → ∀ (s1 : St), (s1.eff (s.frzEffs vs)).ob id = s1.ob id
  | [], _, s1 => rfl
  | v :: vs, h, s1 => by
    unfold St.frzEffs
    rw [eff_append]
    rw [frz_other (noRow_tail h)]
    cases v with
    | row id' sz i n =>
      have hne := noRow_ne h id' (.inl ⟨sz, i, n, by simp⟩)
      cases ho : s.ob id' with
      | none => simp [St.frzEff, ho]
      | some o =>
        cases o <;> simp [St.frzEff, ho, St.setOb, hne.symm]
    | mp id' =>
      have hne := noRow_ne h id' (.inr (by simp))
      cases ho : s.ob id' with
      | none => simp [St.frzEff, ho]
      | some o =>
        cases o with
        | map kd kvs => cases hr : flatVals kvs <;> simp [St.frzEff, ho, hr, St.setOb, hne.symm]
        | _ => simp [St.frzEff, ho]
    | _ => rfl

theorem flatten_mem {α : Type} {sz : Nat} : ∀ {es : List (List α)} {i q : Nat} {e : List α}, (∀ e ∈ es, e.length = sz) → es[i]? = some e → q < sz → es.flatten[i * sz + q]? = e[q]?
  | es, i, q, e, hl, he, hq => by
    have := flatten_get hl he
    rw [← this, List.getElem?_take, if_pos hq, List.getElem?_drop]

/-- A cell's place among the elements. -/
theorem flatten_at {α : Type} {sz : Nat} {es : List (List α)} (hl : ∀ e ∈ es, e.length = sz) {k : Nat} {v : α} (h : es.flatten[k]? = some v) : ∃ i q e, k = i * sz + q ∧ q < sz ∧ es[i]? = some e ∧ e[q]? = some v := by
  have hk := (List.getElem?_eq_some_iff.1 h).1
  rw [flatten_len hl] at hk
  have hsz : 0 < sz := by
    rcases Nat.eq_zero_or_pos sz with h0 | h0
    · subst h0; simp at hk
    · exact h0
  have hi : k / sz < es.length := Nat.div_lt_of_lt_mul (by rw [Nat.mul_comm]; exact hk)
  have hq := Nat.mod_lt k hsz
  refine ⟨k / sz, k % sz, es[k / sz], by rw [Nat.mul_comm]; exact (Nat.div_add_mod k sz).symm, hq, List.getElem?_eq_getElem hi, ?_⟩
  have := flatten_mem (i := k / sz) hl (List.getElem?_eq_getElem hi) hq
  rw [← this, show k / sz * sz + k % sz = k by rw [Nat.mul_comm]; exact Nat.div_add_mod k sz]
  exact h

theorem gives_store {o : Oper} {t : TypeId} {y x : Operand} (ho : o.op = .store t y x) (h : RelAt w0 S0 own X N m cap S st a w) {i : TI} (ht : tinf P t = some i) {f : Eff} (hf : storeA st i.size (st.ev x) (st.ev y) = some f) :
    ∃ w' S', Gives P o a w undef w' ∧ RelAt w0 S0 own X N m cap S' (st.eff f) a w' := by
  have hx := h.ev x
  have hy := h.ev y
  have gv : ∀ {w' : World}, (Instr.storeAt t (a.eval y) (a.eval x)).run P w = .ok () w' → Gives P o a w undef w' := fun hr => .inr ⟨by simp [execOp, ho, hr], rfl⟩
  unfold storeA at hf
  split at hf
  · rename_i id j k hp
    rw [hp] at hy
    unfold AVrep at hy
    obtain ⟨ad, hy1, hy2, hy3⟩ := hy
    split at hf
    · rename_i hc
      obtain ⟨hsz, hone⟩ := hc
      obtain ⟨hxr, hxs⟩ := cells_rep hx hone
      have hlen := hxr.len
      have husz : (a.eval x).cells.size = i.size := by rw [← Array.length_toList, hlen, hsz]
      split at hf
      · rename_i cs hob
        split at hf
        · rename_i hb
          obtain ⟨hj, hjk⟩ := hb
          cases hf
          have had := hy2 cs hob hj
          obtain ⟨⟨arr, ty, k1, k2⟩, k3⟩ := h.obs id _ hob
          have hal : arr.size = cs.length := by rw [← Array.length_toList]; exact k2.len
          obtain ⟨w', r1, r2, r3, r4, r5, r6, r7⟩ := run_storeAt (P := P) ht k1 husz (off := k) (by omega) hxs
          have hsame : Same S w w' := fun b hb => r3 b fun e => k3 (e ▸ hb)
          have hle : Ob.leads (some (.var cs)) (some (.var (over cs k (st.ev x).cells))) := by
            exact ⟨by simp only [Ob.shape]; rw [over_length (by omega)], fun h => h⟩
          have ht2 : Turn (fun _ => False) m m cap cap st.ob (st.setOb id (some (.var (over cs k (st.ev x).cells)))).ob := by
            refine ⟨fun i _ => ?_, fun i _ => ⟨rfl, rfl⟩⟩
            by_cases e : i = id
            · subst e; simp only [St.setOb, if_true]; rw [hob]; exact hle
            · simp only [St.setOb, if_neg e]; exact Ob.leads_refl _
          refine ⟨w', S, gv (by rw [hy1, had]; exact r1), ?_⟩
          refine h.wrote hob k3 hle r3 r4 r5 r6 r7 ⟨⟨_, ty, r2, ?_⟩, k3⟩
          rw [AVreps_iff]
          obtain ⟨q1, q2⟩ := AVreps_iff.1 k2
          obtain ⟨p1, p2⟩ := AVreps_iff.1 hxr
          refine ⟨by rw [Array.length_toList, putAll_size, over_length (by omega), hal], fun n v u hv hu => ?_⟩
          rw [over_get (by omega)] at hv
          rw [Array.getElem?_toList, putAll_get _ _ _ _ (by omega)] at hu
          refine AVrep.keep hsame (fun _ hb => hb) ht2 _ _ (AV.free_false _) ?_
          by_cases hn : k ≤ n ∧ n < k + (st.ev x).cells.length
          · rw [if_pos hn] at hv
            rw [if_pos (by omega)] at hu
            exact p2 _ v u hv hu
          · rw [if_neg hn] at hv
            rw [if_neg (by omega)] at hu
            exact q2 n v u hv (by simpa using hu)
        · cases hf
      · rename_i sz es hob
        split at hf
        · rename_i e xs he hxs'
          split at hf
          · rename_i hb
            obtain ⟨hjk, hno⟩ := hb
            cases hf
            obtain ⟨t1, t2, t3⟩ := toTs_some hxs'
            obtain ⟨S', z1, z2, z3, z4⟩ := freeze_all h (s0 := st) (st.ev x).cells (Froze.refl _) t2
            have hob' : (st.eff (st.frzEffs (st.ev x).cells)).ob id = some (.row sz es) := by rw [frz_other hno]; exact hob
            have hlt := (List.getElem?_eq_some_iff.1 he).1
            have had := hy3 sz es.length (by rw [hob]; rfl) hlt
            obtain ⟨⟨⟨arr, ty, k1, k2⟩, k3, k4, k5⟩, k6⟩ := z1.obs id _ hob'
            have helen := (k5.get he).1
            have hmul : j * sz + sz ≤ es.length * sz := by rw [← Nat.succ_mul]; exact Nat.mul_le_mul_right _ hlt
            have hcap : es.length * sz ≤ cap id * sz := Nat.mul_le_mul_right _ k3
            obtain ⟨w', r1, r2, r3, r4, r5, r6, r7⟩ := run_storeAt (P := P) ht k1 husz (off := j * sz + k) (by omega) hxs
            have hsame : Same S' w w' := fun b hb => r3 b fun e => k6 (e ▸ hb)
            rw [eff_append]
            have hxr' : AVreps w S' m cap (st.eff (st.frzEffs (st.ev x).cells)).ob (st.ev x).cells (a.eval x).cells.toList := by
              refine AVreps.keep (p := fun _ => False) (Same.refl _ _) z2 ⟨fun i _ => ?_, fun i _ => ⟨rfl, rfl⟩⟩ _ _ (AV.frees_false _) hxr
              exact z3.leads i
            have hT := toTs_rep z1 z3 hxs' hxr' z4
            obtain ⟨p1, p2⟩ := Treps_iff.1 hT
            refine ⟨w', S', gv (by rw [hy1, had]; exact r1), ?_⟩
            refine z1.wrote hob' k6 ⟨by simp [Ob.shape], fun h => h⟩ r3 r4 r5 r6 r7 ⟨⟨⟨_, ty, r2, by rw [putAll_size]; exact k2⟩, by simpa using k3, k4, ?_⟩, k6⟩
            rw [Ereps_iff]
            intro n e' he'
            have hnlt : n < es.length := by
              have := (List.getElem?_eq_some_iff.1 he').1
              simpa using this
            have hcell : ∀ q, w'.cell? ⟨m id, q, none⟩ = if j * sz + k ≤ q ∧ q < j * sz + k + (a.eval x).cells.toList.length then (a.eval x).cells.toList[q - (j * sz + k)]? else w.cell? ⟨m id, q, none⟩ := by
              intro q
              unfold World.cell?
              simp only [r2, k1]
              have := putAll_get (a.eval x).cells.toList arr (j * sz + k) q (by omega)
              simpa using this
            by_cases hnj : n = j
            · subst hnj
              rw [List.getElem?_set_self hlt] at he'
              cases he'
              refine ⟨by rw [overT_length (by omega)]; exact helen, ?_⟩
              rw [Creps_iff]
              intro q y hy'
              rw [overT_get (by omega)] at hy'
              by_cases hq : k ≤ q ∧ q < k + xs.length
              · rw [if_pos hq] at hy'
                have hu : ((a.eval x).cells.toList)[q - k]? = some ((a.eval x).cells.toList[q - k]'(by omega)) := List.getElem?_eq_getElem _
                refine ⟨_, ?_, Trep.keep hsame (fun _ hb => hb) _ _ (p2 (q - k) y _ hy' hu)⟩
                rw [hcell, if_pos (by omega), show 0 + n * sz + q - (n * sz + k) = q - k by omega]
                exact hu
              · rw [if_neg hq] at hy'
                obtain ⟨u, g1, g2⟩ := (k5.get he).2.get hy'
                refine ⟨u, ?_, Trep.keep hsame (fun _ hb => hb) _ _ g2⟩
                rw [hcell, if_neg (by omega)]
                exact g1
            · rw [List.getElem?_set_ne (fun e => hnj e.symm)] at he'
              obtain ⟨q1, q2⟩ := k5.get he'
              refine ⟨q1, ?_⟩
              rw [Creps_iff]
              intro q y hy'
              obtain ⟨u, g1, g2⟩ := q2.get hy'
              have hq : q < sz := by have := (List.getElem?_eq_some_iff.1 hy').1; omega
              refine ⟨u, ?_, Trep.keep hsame (fun _ hb => hb) _ _ g2⟩
              rw [hcell, if_neg ?_]
              · exact g1
              · rcases Nat.lt_or_gt_of_ne hnj with hlt' | hlt'
                · have : n * sz + sz ≤ j * sz := by rw [← Nat.succ_mul]; exact Nat.mul_le_mul_right _ hlt'
                  omega
                · have : j * sz + sz ≤ n * sz := by rw [← Nat.succ_mul]; exact Nat.mul_le_mul_right _ hlt'
                  omega
          · cases hf
        · cases hf
      · rename_i sz es hob
        split at hf
        · rename_i e he
          split at hf
          · rename_i hjk
            cases hf
            have hlt := (List.getElem?_eq_some_iff.1 he).1
            have had := hy3 sz es.length (by rw [hob]; rfl) hlt
            obtain ⟨⟨⟨arr, ty, k1, k2, k3, k3'⟩, k4, k5, k6⟩, k7⟩ := h.obs id _ hob
            have hes := k4 e (List.mem_of_getElem? he)
            have hmul := mul_lt_len (sz := sz) hlt
            have hcap : es.length * sz ≤ cap id * sz := Nat.mul_le_mul_right _ k5
            obtain ⟨w', r1, r2, r3, r4, r5, r6, r7⟩ := run_storeAt (P := P) ht k1 husz (off := j * sz + k) (by omega) hxs
            have hsame : Same S w w' := fun b hb => r3 b fun e => k7 (e ▸ hb)
            have hl' : ∀ e' ∈ es.set j (over e k (st.ev x).cells), e'.length = sz := fun e' he' => by
              rcases List.mem_or_eq_of_mem_set he' with h1 | h1
              · exact k4 e' h1
              · rw [h1, over_length (by omega)]; exact hes
            have hle : Ob.leads (some (.big sz es)) (some (.big sz (es.set j (over e k (st.ev x).cells)))) := ⟨by simp [Ob.shape], fun h => h⟩
            have ht2 : Turn (fun _ => False) m m cap cap st.ob (st.setOb id (some (.big sz (es.set j (over e k (st.ev x).cells))))).ob := by
              refine ⟨fun i _ => ?_, fun i _ => ⟨rfl, rfl⟩⟩
              by_cases e : i = id
              · subst e; simp only [St.setOb, if_true]; rw [hob]; exact hle
              · simp only [St.setOb, if_neg e]; exact Ob.leads_refl _
            refine ⟨w', S, gv (by rw [hy1, had]; exact r1), ?_⟩
            refine h.wrote hob k7 hle r3 r4 r5 r6 r7 ⟨⟨⟨_, ty, r2, by rw [putAll_size]; exact k2, ?_, fun u hu => ?_⟩, hl', by simpa using k5, k6⟩, k7⟩
            rotate_left
            · rw [List.length_set] at hu
              obtain ⟨n, hn⟩ := List.getElem?_of_mem hu
              rw [List.getElem?_take] at hn
              split at hn
              · rw [Array.getElem?_toList, putAll_get _ _ _ _ (by omega)] at hn
                split at hn
                · exact hxs u (List.mem_of_getElem? hn)
                · refine k3' u (List.mem_of_getElem? (i := n) ?_)
                  rw [List.getElem?_take, if_pos (by assumption), Array.getElem?_toList]
                  exact hn
              · cases hn
            rw [AVreps_iff]
            obtain ⟨q1, q2⟩ := AVreps_iff.1 k3
            obtain ⟨p1, p2⟩ := AVreps_iff.1 hxr
            have hpl : (putAll arr (j * sz + k) (a.eval x).cells.toList).toList.length = arr.size := by rw [Array.length_toList, putAll_size]
            refine ⟨by rw [List.length_take, hpl, flatten_len hl', List.length_set]; omega, fun n v u hv hu => ?_⟩
            refine AVrep.keep hsame (fun _ hb => hb) ht2 _ _ (AV.free_false _) ?_
            obtain ⟨i2, q, e2, rfl, hq, he2, hv2⟩ := flatten_at hl' hv
            rw [List.getElem?_take] at hu
            split at hu
            · rw [Array.getElem?_toList, putAll_get _ _ _ _ (by omega)] at hu
              by_cases hij : i2 = j
              · subst hij
                rw [List.getElem?_set_self hlt] at he2
                cases he2
                rw [over_get (by omega)] at hv2
                by_cases hn : k ≤ q ∧ q < k + (st.ev x).cells.length
                · rw [if_pos hn] at hv2
                  rw [if_pos (by omega)] at hu
                  exact p2 _ v u hv2 (by rw [← hu]; congr 1; omega)
                · rw [if_neg hn] at hv2
                  rw [if_neg (by omega)] at hu
                  refine q2 (i2 * sz + q) v u (by rw [flatten_mem k4 he hq]; exact hv2) ?_
                  rw [List.getElem?_take, if_pos (by omega), Array.getElem?_toList]
                  exact hu
              · rw [List.getElem?_set_ne (fun e => hij e.symm)] at he2
                have hlt2 := (List.getElem?_eq_some_iff.1 he2).1
                have hmul2 := mul_lt_len (sz := sz) hlt2
                rw [if_neg ?_] at hu
                · refine q2 (i2 * sz + q) v u (by rw [flatten_mem k4 he2 hq]; exact hv2) ?_
                  rw [List.getElem?_take, if_pos (by omega), Array.getElem?_toList]
                  exact hu
                · rcases Nat.lt_or_gt_of_ne hij with hlt' | hlt'
                  · have : i2 * sz + sz ≤ j * sz := by rw [← Nat.succ_mul]; exact Nat.mul_le_mul_right _ hlt'
                    omega
                  · have : j * sz + sz ≤ i2 * sz := by rw [← Nat.succ_mul]; exact Nat.mul_le_mul_right _ hlt'
                    omega
            · cases hu
          · cases hf
        · cases hf
      · cases hf
    · cases hf
  · cases hf

end Cal
