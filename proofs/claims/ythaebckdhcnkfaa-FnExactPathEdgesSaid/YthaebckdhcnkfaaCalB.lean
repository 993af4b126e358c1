/- A calculus of our own over the model's code, second part: what each operation does to pure values (the evaluator). No program is named here. -/
import Derived.Test.YthaebckdhcnkfaaCalA
namespace Cal
open Go Go.RowKit

/-- What is asked of a type. -/
structure TI where
  agg : Bool
  size : Nat
  bytes : Nat
  zero : List Value

def isAggB : TypeDesc → Bool
  | .struct _ | .array _ _ => true
  | _ => false

def tinf (P : Program) (t : TypeId) : Option TI :=
  match P.info? t, P.underlying t with
  | some i, some d => match i.zero with
    | some z => some ⟨isAggB d, i.size, i.bytes, z.cells.toList⟩
    | none => none
  | _, _ => none

/-- Where a field begins, and its type's number of cells; is it an aggregate. -/
def foff (P : Program) (t : TypeId) (f : Nat) : Option (Nat × Nat × Bool) :=
  match P.underlying t with
  | some (.struct fs) => match fs[f]? with
    | some fd => match tinf P fd.type with
      | some i => some (fd.offset, i.size, i.agg)
      | none => none
    | none => none
  | _ => none

def AV.cells : AV → List AV
  | .agg cs => cs
  | v => [v]

/-- The value of one cell, and known. -/
def AV.one : AV → Bool
  | .t _ | .row .. | .ptr .. => true
  | _ => false

def cst (x : Value) : AV :=
  match x with
  | .agg cs => if cs.all plain then .agg (cs.toList.map fun u => .t (.v u)) else .bad
  | u => if plain u then .t (.v u) else .bad

def St.ev (s : St) : Operand → AV
  | .tmp t => s.tm t
  | .const x => cst x
  | _ => .bad

def St.put (s : St) (d : Option Nat) (v : AV) : St :=
  match d with
  | some t => { s with tm := fun u => if u = t then v else s.tm u }
  | none => s

def St.setOb (s : St) (id : Id) (o : Option Ob) : St := { s with ob := fun i => if i = id then o else s.ob i }

def St.eff (s : St) : List (Id × Option Ob) → St
  | [] => s
  | (id, o) :: l => (s.setOb id o).eff l

abbrev Eff := List (Id × Option Ob)

/-- The window of a row. -/
def window (es : List (List T)) (i n : Nat) : List (List T) := (es.drop i).take n

/-- As a pure cell, and the rows that are no longer written from then on. -/
def St.toT (s : St) : AV → Option T
  | .t x => some x
  | .row id _ i n => match s.ob id with
    | some (.row _ es) => some (.sl (window es i n))
    | some (.frz _ es) => some (.sl (window es i n))
    | _ => none
  | _ => none

def St.frzEff (s : St) : AV → List (Id × Option Ob)
  | .row id _ _ _ => match s.ob id with
    | some (.row sz es) => [(id, some (.frz sz es))]
    | _ => []
  | _ => []

def St.toTs (s : St) : List AV → Option (List T)
  | [] => some []
  | v :: vs => match s.toT v, s.toTs vs with
    | some x, some xs => some (x :: xs)
    | _, _ => none

def St.frzEffs (s : St) : List AV → List (Id × Option Ob)
  | [] => []
  | v :: vs => s.frzEff v ++ s.frzEffs vs



/-- Int operations, as they stand in the model. -/
def isBoolT : Option TypeDesc → Bool
  | some .bool => true
  | _ => false

/-- Operations of two values. -/
def binV (op : BinOp) (ty : Bool) (x y : Value) : Option Value :=
  match x, y with
  | .int k a, .int k' b => if k = k' then
      match op with
      | .add => some (.int k (k.wrap (a + b)))
      | .sub => some (.int k (k.wrap (a - b)))
      | .mul => some (.int k (k.wrap (a * b)))
      | .quo => if b = 0 then none else some (.int k (k.wrap (a.tdiv b)))
      | .rem => if b = 0 then none else some (.int k (a.tmod b))
      | .eql => some (.bool (a == b))
      | .neq => some (.bool (a != b))
      | .lss => some (.bool (a < b))
      | .leq => some (.bool (a ≤ b))
      | .gtr => some (.bool (a > b))
      | .geq => some (.bool (a ≥ b))
      | _ => none
    else none
  | .string a, .string b =>
      match op with
      | .add => if (((a.size + b.size : Nat) : Int) > IntKind.i64.max) then none else some (.string (a ++ b))
      | .eql => some (.bool (a.toList == b.toList))
      | .neq => some (.bool !(a.toList == b.toList))
      | _ => none
  | .bool a, .bool b => if ty = true then
      match op with
      | .eql => some (.bool (a == b))
      | .neq => some (.bool !(a == b))
      | _ => none
    else none
  | _, _ => none

def unV (op : UnOp) (x : Value) : Option Value :=
  match op, x with
  | .not, .bool b => some (.bool !b)
  | .neg, .int k n => some (.int k (k.wrap (0 - n)))
  | _, _ => none

/-- Cells put in from a place on. -/
def over (cs : List AV) (off : Nat) (ns : List AV) : List AV := cs.take off ++ ns ++ cs.drop (off + ns.length)
def overT (cs : List T) (off : Nat) (ns : List T) : List T := cs.take off ++ ns ++ cs.drop (off + ns.length)

def asOne (agg : Bool) (cs : List AV) : Option AV :=
  if agg then some (.agg cs) else match cs with
    | [c] => some c
    | _ => none

def fillA (P : Program) (t : TypeId) (st : St) (zero : List AV) : List (Nat × Operand) → Option (List AV)
  | [] => some zero
  | (i, x) :: l => match foff P t i with
    | some (off, size, _) => if (st.ev x).cells.length = size ∧ off + size ≤ zero.length ∧ (st.ev x).cells.all AV.one then fillA P t st (over zero off (st.ev x).cells) l else none
    | none => none

/-- The elements of a slice literal, each given. -/
def litA (st : St) (size : Nat) : Nat → List (Nat × Operand) → Option (List (List T) × Eff)
  | _, [] => some ([], [])
  | k, (i, x) :: l => if i = k ∧ (st.ev x).cells.length = size then
      match st.toTs (st.ev x).cells, litA st size (k + 1) l with
      | some e, some (es, f) => some (e :: es, st.frzEffs (st.ev x).cells ++ f)
      | _, _ => none
    else none

def loadA (st : St) (agg : Bool) (size : Nat) : AV → Option AV
  | .ptr id i j => match st.ob id with
    | some (.var cs) => if i = 0 ∧ j + size ≤ cs.length then asOne agg ((cs.drop j).take size) else none
    | some (.row _ es) | some (.frz _ es) => match es[i]? with
      | some e => if j + size ≤ e.length then asOne agg (((e.drop j).take size).map .t) else none
      | none => none
    | none => none
  | .roptr cs => if size ≤ cs.length then asOne agg ((cs.take size).map .t) else none
  | _ => none

def noRow (id : Id) : List AV → Bool
  | [] => true
  | .row id' _ _ _ :: l => id' != id && noRow id l
  | _ :: l => noRow id l

def storeA (st : St) (size : Nat) (x : AV) : AV → Option Eff
  | .ptr id i j => if x.cells.length = size ∧ x.cells.all AV.one then match st.ob id with
    | some (.var cs) => if i = 0 ∧ j + size ≤ cs.length then some [(id, some (.var (over cs j x.cells)))] else none
    | some (.row sz es) => match es[i]?, st.toTs x.cells with
      | some e, some xs => if j + size ≤ e.length ∧ noRow id x.cells = true then some (st.frzEffs x.cells ++ [(id, some (.row sz (es.set i (overT e j xs))))]) else none
      | _, _ => none
    | _ => none
    else none
  | _ => none

/-- The limit of a row's bytes. -/
def lim : Nat := 140737488355328


/-- All elements have so many cells. -/
def szOK (size : Nat) (es : List (List T)) : Bool := es.all fun e => e.length == size

/-- What a slice's elements are, as far as it may be read. -/
def elemsA (st : St) (size : Nat) : AV → Option (List (List T))
  | .t (.v (.slice none 0 0)) => some []
  | .t (.sl es) => if szOK size es = true then some es else none
  | .row id sz i n => if sz = size then match st.ob id with
    | some (.row _ es) | some (.frz _ es) => some (window es i n)
    | _ => none
    else none
  | _ => none

/-- What an append asks of the elements' type. -/
def TI.fine (i : TI) : Bool := i.zero.length == i.size && decide (0 < i.size) && decide (0 < i.bytes)

def appendA (d : Nat) (st : St) (i : TI) (s : AV) (es : List (List T)) : Option (AV × Eff) :=
  if i.fine = false then none else match s with
  | .t (.v (.slice none 0 0)) => if es.length * i.bytes ≤ lim then some (if es.length = 0 then (.t (.v (.slice none 0 0)), []) else (.row (d, 0) i.size 0 es.length, [((d, 0), some (.row i.size es))])) else none
  | .row id _ 0 n => match st.ob id with
    | some (.row sz fs) => if sz = i.size ∧ n = fs.length ∧ (n + es.length) * i.bytes ≤ lim then some (.row (d, 0) sz 0 (n + es.length), [(id, none), ((d, 0), some (.row sz (fs ++ es)))]) else none
    | _ => none
  | _ => none

def elemOf (P : Program) (t : TypeId) : Option (TypeId × TI) :=
  match P.underlying t with
  | some (.slice e) => (tinf P e).map fun i => (e, i)
  | _ => none

def intA : AV → Option Int
  | .t (.v (.int _ n)) => some n
  | _ => none

def indexAddrA (el : Option (TypeId × TI)) (x : AV) (n : Int) : Option AV :=
  match el, x with
  | some (_, i), .t (.sl es) => if 0 ≤ n then match es[n.toNat]? with
      | some e => if i.size = e.length then some (.roptr e) else none
      | none => none
    else none
  | some (_, i), .row id sz r k => if sz = i.size ∧ 0 ≤ n ∧ n.toNat < k then some (.ptr id (r + n.toNat) 0) else none
  | _, _ => none

/-- What a type is: a string's; a slice's, its elements so many cells. -/
inductive TK where
  | str
  | sl (size : Nat)
  | no

def tkind (P : Program) (t : TypeId) : TK :=
  match P.underlying t with
  | some .string => .str
  | some (.slice e) => match tinf P e with
    | some i => .sl i.size
    | none => .no
  | _ => .no

def sliceA (k : TK) (x : AV) (lo hi : Option Int) : Option AV :=
  match k, x with
  | .str, .t (.v (.string s)) => if 0 ≤ lo.getD 0 ∧ lo.getD 0 ≤ hi.getD s.size ∧ hi.getD s.size ≤ s.size then some (.t (.v (.string (s.extract (lo.getD 0).toNat (hi.getD s.size).toNat)))) else none
  | .sl size, .t (.sl es) => if szOK size es = true ∧ 0 ≤ lo.getD 0 ∧ lo.getD 0 ≤ hi.getD es.length ∧ hi.getD es.length ≤ es.length then some (.t (.sl (window es (lo.getD 0).toNat (hi.getD es.length - lo.getD 0).toNat))) else none
  | .sl size, .row id sz i n => if size = sz ∧ 0 ≤ lo.getD 0 ∧ lo.getD 0 ≤ hi.getD n ∧ hi.getD n ≤ n then some (.row id sz (i + (lo.getD 0).toNat) (hi.getD n - lo.getD 0).toNat) else none
  | _, _ => none

def lenA (k : TK) (x : AV) : Option Nat :=
  match k, x with
  | .str, .t (.v (.string s)) => some s.size
  | .sl _, .t (.v (.slice none 0 0)) => some 0
  | .sl _, .t (.sl es) => some es.length
  | .sl _, .row _ _ _ n => some n
  | _, _ => none

def pickA (c a b : AV) : Option (AV × Eff) :=
  match c with
  | .t (.v (.bool t)) => some (if t = true then a else b, [])
  | _ => none

def nilA : AV → Option (AV × Eff)
  | .ptr id i j => some (.ptr id i j, [])
  | .roptr cs => some (.roptr cs, [])
  | _ => none

def binA (op : BinOp) (ty : Bool) (x y : AV) : Option (AV × Eff) :=
  match x, y with
  | .t (.v a), .t (.v b) => (binV op ty a b).map fun u => (.t (.v u), [])
  | _, _ => none

def unA (op : UnOp) (x : AV) : Option (AV × Eff) :=
  match x with
  | .t (.v a) => (unV op a).map fun u => (.t (.v u), [])
  | _ => none

def convA (t : Option TypeDesc) (x : AV) : Option (AV × Eff) :=
  match t, x with
  | some (.int k), .t (.v (.int _ n)) => some (.t (.v (.int k (k.wrap n))), [])
  | _, _ => none

def sliceO (k : TK) (x : AV) (lo hi : Option (Option Int)) : Option (AV × Eff) :=
  match lo, hi with
  | some none, _ | _, some none => none
  | l, h => (sliceA k x (l.bind id) (h.bind id)).map fun v => (v, [])

def fieldAddrA (f : Option (Nat × Nat × Bool)) (x : AV) : Option (AV × Eff) :=
  match f, x with
  | some (off, size, _), .ptr id i j => if 0 < size then some (.ptr id i (j + off), []) else none
  | some (off, size, _), .roptr cs => if 0 < size ∧ off < cs.length then some (.roptr (cs.drop off), []) else none
  | _, _ => none

def fieldA (f : Option (Nat × Nat × Bool)) (x : AV) : Option (AV × Eff) :=
  match f, x with
  | some (off, size, agg), .agg cs => if off + size ≤ cs.length then (asOne agg ((cs.drop off).take size)).map fun v => (v, []) else none
  | _, _ => none

def indexAddrO (el : Option (TypeId × TI)) (x ix : AV) : Option (AV × Eff) :=
  match ix with
  | .t (.v (.int _ n)) => (indexAddrA el x n).map fun v => (v, [])
  | _ => none

def indexA (k : TK) (x ix : AV) : Option (AV × Eff) :=
  match k, x, ix with
  | .str, .t (.v (.string s)), .t (.v (.int _ n)) => if 0 ≤ n then match s[n.toNat]? with
      | some b => some (.t (.v (.int .u8 b.toNat)), [])
      | none => none
    else none
  | _, _, _ => none

def extractA (x : AV) (i : Nat) : Option (AV × Eff) :=
  match x with
  | .tup vs => match vs[i]? with
    | some v => some (v, [])
    | none => none
  | _ => none

/-- A struct type, its fields' sizes known. -/
def okStruct (P : Program) (t : TypeId) : Bool :=
  match P.underlying t with
  | some (.struct fs) => (fs.toList.mapM fun f => (P.info? f.type).map fun i => (f.offset, i.size)).isSome
  | _ => false

/-- A slice made: so many elements, all null. -/
def makeA (d : Nat) (el : Option (TypeId × TI)) (n c : AV) : Option (AV × Eff) :=
  match el, n, c with
  | some (_, i), .t (.v (.int .i64 n)), .t (.v (.int .i64 c)) => if i.fine = true ∧ i.zero.all plain = true ∧ 0 ≤ n ∧ n ≤ c ∧ c.toNat * i.bytes ≤ lim then
      some (.row (d, 0) i.size 0 n.toNat, [((d, 0), some (.row i.size (List.replicate n.toNat (i.zero.map .v))))]) else none
  | _, _, _ => none

/-- Calls of what is built in. -/
def callA (P : Program) (d : Nat) (st : St) : Builtin → List Operand → List TypeId → Option (AV × Eff)
  | .len, [x], [t] => (lenA (tkind P t) (st.ev x)).map fun n => (.t (.v (.int .i64 n)), [])
  | .append, [x, y], [t, t2] => if t = t2 then (elemOf P t).bind fun ei => (elemsA st ei.2.size (st.ev y)).bind fun es => appendA d st ei.2 (st.ev x) es else none
  | _, _, _ => none

/-- Operations without calls of Go functions. -/
def evOp (P : Program) (d : Nat) (st : St) : Op → Option (AV × Eff)
  | .move x | .assign x => some (st.ev x, [])
  | .pick c a b => pickA (st.ev c) (st.ev a) (st.ev b)
  | .alloc t => (tinf P t).bind fun i => if i.zero.all plain then some (.ptr (d, 0) 0 0, [((d, 0), some (.var (i.zero.map fun x => .t (.v x))))]) else none
  | .box _ x => if (st.ev x).cells.all AV.one then some (.ptr (d, 0) 0 0, [((d, 0), some (.var (st.ev x).cells))]) else none
  | .build t parts => (tinf P t).bind fun i => if okStruct P t = true ∧ i.zero.all plain = true then (fillA P t st (i.zero.map fun x => .t (.v x)) parts.toList).map fun cs => (.agg cs, []) else none
  | .buildSlice t len parts => (elemOf P t).bind fun ei => if ei.2.fine = true ∧ len = parts.size ∧ len * ei.2.size ≤ 16777216 then (litA st ei.2.size 0 parts.toList).map fun r => (.row (d, 0) ei.2.size 0 len, r.2 ++ [((d, 0), some (.row ei.2.size r.1))]) else none
  | .makeSlice t x y => makeA d (elemOf P t) (st.ev x) (st.ev y)
  | .load t a => (tinf P t).bind fun i => (loadA st i.agg i.size (st.ev a)).map fun v => (v, [])
  | .store t a x => (tinf P t).bind fun i => (storeA st i.size (st.ev x) (st.ev a)).map fun f => (.bad, f)
  | .nilCheck x => nilA (st.ev x)
  | .binOp op t x y _ => binA op (isBoolT (P.underlying t)) (st.ev x) (st.ev y)
  | .unOp op _ x => unA op (st.ev x)
  | .convert src dst x => if (P.underlying src).isSome = true then convA (P.underlying dst) (st.ev x) else none
  | .slice t x lo hi none => sliceO (tkind P t) (st.ev x) (lo.map fun o => intA (st.ev o)) (hi.map fun o => intA (st.ev o))
  | .fieldAddr s x f => fieldAddrA (foff P s f) (st.ev x)
  | .field s x f => fieldA (foff P s f) (st.ev x)
  | .indexAddr t x ix => indexAddrO (elemOf P t) (st.ev x) (st.ev ix)
  | .index t x ix => indexA (tkind P t) (st.ev x) (st.ev ix)
  | .extract x i => extractA (st.ev x) i
  | .call { callee := .builtin b, args := xs, argTypes := ts } => callA P d st b xs.toList ts.toList
  | _ => none

/-- What is handed to a Go function. -/
inductive Arg where
  | val (x : T)
  | agg (xs : List T)
  | mrow (sz : Nat) (es : List (List T))
  | mvar (cs : List T)
  deriving Inhabited

/-- What comes back: own rows are new, and written on by whoever called. -/
inductive RV where
  | t (x : T)
  | own (sz : Nat) (es : List (List T))
  | agg (cs : List RV)
  | tup (vs : List RV)
  | var (cs : List T)
  deriving Inhabited

def St.arg (s : St) (v : AV) (a : Arg) : Prop :=
  match a with
  | .val x => s.toT v = some x
  | .agg xs => ∃ cs, v = .agg cs ∧ s.toTs cs = some xs
  | .mrow sz es => ∃ id, v = .row id sz 0 es.length ∧ s.ob id = some (.row sz es)
  | .mvar cs => ∃ id, v = .ptr id 0 0 ∧ s.ob id = some (.var (cs.map .t))

def St.args (s : St) : List AV → List Arg → Prop
  | [], [] => True
  | v :: vs, a :: as => s.arg v a ∧ s.args vs as
  | _, _ => False

end Cal
