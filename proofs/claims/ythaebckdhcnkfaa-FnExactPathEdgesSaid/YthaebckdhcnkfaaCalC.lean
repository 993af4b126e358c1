/- A calculus of our own over the model's code, third part: calls, regions, code: what is to be shown of pure states (the logic). No program is named here. -/
import Derived.Test.YthaebckdhcnkfaaCalB
namespace Cal
open Go Go.RowKit

/-! ### what a call of a Go function says -/

def OwnRow (w : World) (S : Nat → Prop) (b sz : Nat) (es : List (List T)) (cap : Nat) : Prop :=
  (∃ arr ty, w.heap[b]? = some (.cells arr ty (0, 0)) ∧ arr.size = cap * sz) ∧ es.length ≤ cap ∧ cap ≤ maxLen ∧ Ereps w S b 0 sz es

def OwnCells (w : World) (S : Nat → Prop) (b : Nat) (cs : List T) : Prop :=
  (∃ arr ty, w.heap[b]? = some (.cells arr ty (0, 0)) ∧ arr.size = cs.length) ∧ Creps w S b 0 cs

def Treps (w : World) (S : Nat → Prop) : List T → List Value → Prop
  | [], [] => True
  | x :: xs, u :: us => Trep w S x u ∧ Treps w S xs us
  | _, _ => False

mutual
/-- A result in memory; bs: the blocks that it owns. -/
def RVrep (w : World) (S : Nat → Prop) : RV → Value → List Nat → Prop
  | .t x, u, bs => bs = [] ∧ Trep w S x u
  | .own sz es, u, bs => ∃ b c, bs = [b] ∧ u = .slice (some ⟨b, 0, none⟩) es.length c ∧ OwnRow w S b sz es c
  | .agg cs, u, bs => ∃ us : List Value, u = .agg us.toArray ∧ RVreps w S cs us bs
  | .tup cs, u, bs => ∃ us : List Value, u = .tuple us.toArray ∧ RVreps w S cs us bs
  | .var cs, u, bs => ∃ b, bs = [b] ∧ u = .pointer (some ⟨b, 0, none⟩) ∧ OwnCells w S b cs
def RVreps (w : World) (S : Nat → Prop) : List RV → List Value → List Nat → Prop
  | [], us, bs => us = [] ∧ bs = []
  | r :: rs, us, bs => ∃ u us' b1 b2, us = u :: us' ∧ bs = b1 ++ b2 ∧ RVrep w S r u b1 ∧ RVreps w S rs us' b2
end

def ArgRep (w : World) (S : Nat → Prop) : Arg → Value → List (Nat × Nat) → Prop
  | .val x, u, ab => ab = [] ∧ Trep w S x u
  | .agg xs, u, ab => ab = [] ∧ ∃ us : List Value, u = .agg us.toArray ∧ Treps w S xs us
  | .mrow sz es, u, ab => ∃ b c, ab = [(b, c)] ∧ u = .slice (some ⟨b, 0, none⟩) es.length c ∧ OwnRow w S b sz es c ∧ ¬ S b
  | .mvar cs, u, ab => ∃ b, ab = [(b, 0)] ∧ u = .pointer (some ⟨b, 0, none⟩) ∧ OwnCells w S b cs ∧ ¬ S b

def ArgsRep (w : World) (S : Nat → Prop) : List Arg → List Value → List (Nat × Nat) → Prop
  | [], us, ab => us = [] ∧ ab = []
  | a :: as, us, ab => ∃ u us' b1 b2, us = u :: us' ∧ ab = b1 ++ b2 ∧ ArgRep w S a u b1 ∧ ArgsRep w S as us' b2

/-- What an argument's own block holds behind the call. -/
def OutRep (w : World) (S : Nat → Prop) (b : Nat × Nat) : Option Arg → Prop
  | none => True
  | some (.mrow sz es) => OwnRow w S b.1 sz es b.2 ∧ ¬ S b.1
  | some (.mvar cs) => OwnCells w S b.1 cs ∧ ¬ S b.1
  | some _ => False

def OutReps (w : World) (S : Nat → Prop) : List (Nat × Nat) → List (Option Arg) → Prop
  | [], [] => True
  | b :: bs, o :: os => OutRep w S b o ∧ OutReps w S bs os
  | _, _ => False

/-- The blocks of the arguments that still are the caller's. -/
def liveOuts : List (Nat × Nat) → List (Option Arg) → List Nat
  | b :: bs, some _ :: os => b.1 :: liveOuts bs os
  | _ :: bs, none :: os => liveOuts bs os
  | _, _ => []

/-- Blocks that were there hold what they held, but for those of 'own'. -/
structure After (own : List Nat) (w w' : World) : Prop where
  os : w'.os = w.os
  tape : w'.tape = w.tape
  output : w'.output = w.output
  size : w.heap.size ≤ w'.heap.size
  block : ∀ k, k < w.heap.size → k ∉ own → w'.heap[k]? = w.heap[k]?

def Post (w : World) (S : Nat → Prop) (ab : List (Nat × Nat)) (res : RV) (outs : List (Option Arg)) (e : Ending) (w' : World) : Prop :=
  ∃ (u : Value) (S' : Nat → Prop) (bs : List Nat), e = .returned u ∧ After (ab.map (·.1)) w w' ∧ (∀ b, S b → S' b) ∧
    (∀ b, S' b → b < w'.heap.size ∧ (S b ∨ w.heap.size ≤ b ∨ b ∈ ab.map (·.1))) ∧
    RVrep w' S' res u bs ∧ (bs ++ liveOuts ab outs).Nodup ∧ (∀ b ∈ bs, ¬ S' b ∧ b < w'.heap.size ∧ (w.heap.size ≤ b ∨ b ∈ ab.map (·.1))) ∧
    OutReps w' S' ab outs

/-- What comes out of an argument has the argument's shape. -/
def Arg.like : List Arg → List (Option Arg) → Prop
  | .mrow sz es :: as, some (.mrow sz' es') :: os => sz' = sz ∧ es'.length = es.length ∧ Arg.like as os
  | .mvar cs :: as, some (.mvar cs') :: os => cs'.length = cs.length ∧ Arg.like as os
  | .mrow _ _ :: as, none :: os => Arg.like as os
  | .mvar _ :: as, none :: os => Arg.like as os
  | .val _ :: as, os => Arg.like as os
  | .agg _ :: as, os => Arg.like as os
  | [], [] => True
  | _, _ => False

/-- A function with a body of its own. -/
def enters (P : Program) (f : FuncId) : Prop := ∃ fn, P.funcs[f]? = some fn ∧ (fn.name == "runtime.NumGoroutine") = false ∧ fn.body.isNone = false

/-- How the parts of the arguments stand together: one by itself; so many as one struct. -/
abbrev Shape := List (Option Nat)
def flatU : Shape → List Value → Option (List Value)
  | [], [] => some []
  | none :: sh, u :: us => (flatU sh us).map fun l => u :: l
  | some n :: sh, .agg cs :: us => if cs.size = n then (flatU sh us).map fun l => cs.toList ++ l else none
  | _, _ => none
def flatV : Shape → List AV → Option (List AV)
  | [], [] => some []
  | none :: sh, v :: vs => (flatV sh vs).map fun l => v :: l
  | some n :: sh, .agg cs :: vs => if cs.length = n then (flatV sh vs).map fun l => cs ++ l else none
  | _, _ => none
/-- Each by itself. -/
def nones (as : List Arg) : Shape := as.map fun _ => none

/-- Function f, handed such arguments, returns such a result, in every world; nothing else that was there has turned. -/
def CallsFS (P : Program) (f : FuncId) (sh : Shape) (args : List Arg) (res : RV) (outs : List (Option Arg)) : Prop :=
  enters P f ∧ Arg.like args outs ∧ ∀ (w : World) (S : Nat → Prop) (us usF : List Value) (ab : List (Nat × Nat)), (∀ b, S b → b < w.heap.size) → flatU sh us = some usF → ArgsRep w S args usF ab → (ab.map (·.1)).Nodup →
    (∀ b ∈ ab.map (·.1), b < w.heap.size) → Calls P f us.toArray w (Post w S ab res outs)
def CallsF (P : Program) (f : FuncId) (args : List Arg) (res : RV) (outs : List (Option Arg)) : Prop := CallsFS P f (nones args) args res outs

theorem flatU_nones : ∀ (as : List Arg) (us usF : List Value), flatU (nones as) us = some usF → usF = us
  | [], [], usF, h => by simp [nones, flatU] at h; exact h
  | [], _ :: _, usF, h => by simp [nones, flatU] at h
  | _ :: as, [], usF, h => by simp [nones, flatU] at h
  | _ :: as, u :: us, usF, h => by
    simp only [nones, List.map_cons, flatU] at h
    cases hr : flatU (as.map fun _ => none) us with
    | none => rw [hr] at h; cases h
    | some l =>
      rw [hr] at h
      have := flatU_nones as us l hr
      simp at h
      rw [← h, this]
theorem flatU_self : ∀ (as : List Arg) (us : List Value), us.length = as.length → flatU (nones as) us = some us
  | [], [], _ => rfl
  | [], _ :: _, h => by simp at h
  | _ :: as, [], h => by simp at h
  | _ :: as, u :: us, h => by
    have := flatU_self as us (by simpa using h)
    simp only [nones, List.map_cons, flatU]
    unfold nones at this
    rw [this]
    rfl
theorem flatV_args {st : St} : ∀ {vs : List AV} {as : List Arg}, st.args vs as → flatV (nones as) vs = some vs
  | [], [], _ => rfl
  | [], _ :: _, h => h.elim
  | _ :: _, [], h => h.elim
  | v :: vs, b :: as, h => by
    have := flatV_args (vs := vs) (as := as) h.2
    simp only [nones, List.map_cons, flatV]
    unfold nones at this
    rw [this]
    rfl

/-! ### the state behind a call -/
mutual
def retA (d : Nat) (k : Nat) : RV → AV × Eff × Nat
  | .t x => (.t x, [], k)
  | .own sz es => (.row (d, k) sz 0 es.length, [((d, k), some (.row sz es))], k + 1)
  | .agg cs => let r := retAs d k cs; (.agg r.1, r.2.1, r.2.2)
  | .tup cs => let r := retAs d k cs; (.tup r.1, r.2.1, r.2.2)
  | .var cs => (.ptr (d, k) 0 0, [((d, k), some (.var (cs.map .t)))], k + 1)
def retAs (d : Nat) (k : Nat) : List RV → List AV × Eff × Nat
  | [] => ([], [], k)
  | r :: rs => let a := retA d k r; let b := retAs d a.2.2 rs; (a.1 :: b.1, a.2.1 ++ b.2.1, b.2.2)
end

/-- The objects behind the arguments. -/
def outEff : List AV → List Arg → List (Option Arg) → Eff
  | .row id _ _ _ :: vs, .mrow _ _ :: as, o :: os => (match o with | some (.mrow sz es) => (id, some (.row sz es)) | _ => (id, none)) :: outEff vs as os
  | .ptr id _ _ :: vs, .mvar _ :: as, o :: os => (match o with | some (.mvar cs) => (id, some (.var (cs.map .t))) | _ => (id, none)) :: outEff vs as os
  | _ :: vs, _ :: as, os => outEff vs as os
  | _, _, _ => []

/-! ### what is to be shown -/

def St.eff' (s : St) (d : Option Nat) (v : AV) (f : Eff) : St := (s.eff f).put d v

/-- A region: its operations; is its order drawn; which of its makers of objects may write on others. -/
structure Rg where
  ops : Array Oper
  drawn : Bool
  loud : List Nat

def Rg.mute (rg : Rg) (d : Option Nat) : Bool := rg.drawn && !(rg.loud.contains (d.getD 0))

/-- Nothing but own objects is written. -/
def muted (b : Bool) (d : Nat) (x : Option (AV × Eff)) : Option (AV × Eff) :=
  if b = true then match x with
    | some (v, f) => if f.all (fun p => p.1.1 == d) = true then some (v, f) else none
    | none => none
  else x

def T.flat : T → Prop
  | .v _ => True
  | .sl _ => False

mutual
def RV.flat : RV → Prop
  | .t x => x.flat
  | .own _ es => ∀ e ∈ es, ∀ x ∈ e, T.flat x
  | .agg cs => RV.flats cs
  | .tup cs => RV.flats cs
  | .var cs => ∀ x ∈ cs, T.flat x
def RV.flats : List RV → Prop
  | [] => True
  | r :: rs => r.flat ∧ RV.flats rs
end

def Arg.flat : Option Arg → Prop
  | some (.mrow _ es) => ∀ e ∈ es, ∀ x ∈ e, T.flat x
  | some (.mvar cs) => ∀ x ∈ cs, T.flat x
  | _ => True
def Arg.flats : List (Option Arg) → Prop
  | [] => True
  | o :: os => Arg.flat o ∧ Arg.flats os

/-- What is handed over to be read. -/
def valsOf : List AV → List Arg → List AV
  | v :: vs, .val _ :: as => v :: valsOf vs as
  | v :: vs, .agg _ :: as => v.cells ++ valsOf vs as
  | _ :: vs, _ :: as => valsOf vs as
  | _, _ => []

/-- The objects that are handed over to be written. -/
def mutsOf : List AV → List Arg → List Id
  | .row id _ _ _ :: vs, .mrow .. :: as => id :: mutsOf vs as
  | .ptr id _ _ :: vs, .mvar _ :: as => id :: mutsOf vs as
  | _ :: vs, _ :: as => mutsOf vs as
  | _, _ => []

def apartArgs (vs : List AV) (as : List Arg) : Prop := (mutsOf vs as).Nodup ∧ ∀ id ∈ mutsOf vs as, noRow id (valsOf vs as) = true

def callFrz (keep : Bool) (st : St) (vs : List AV) (as : List Arg) : Eff := if keep = true then [] else st.frzEffs (valsOf vs as)

def retOf (d : Option Nat) (res : RV) : AV × Eff :=
  match d with
  | none => (.bad, [])
  | some t => ((retA t 0 res).1, (retA t 0 res).2.1)

/-- A call: K's second place is not to be looked into. keep: what is read stays writable behind the call, for nothing that came back names it. -/
def CallK (P : Program) (f : FuncId) (mute : Bool) (st : St) (vs : List AV) (d : Option Nat) (K : St → Prop) : Prop :=
  ∃ sh vsF as res outs keep, flatV sh vs = some vsF ∧ st.args vsF as ∧ apartArgs vsF as ∧ CallsFS P f sh as res outs ∧ (keep = true → res.flat ∧ Arg.flats outs) ∧ (mute = true → callFrz keep st vsF as ++ outEff vsF as outs = []) ∧
    K ((st.eff (callFrz keep st vsF as ++ outEff vsF as outs ++ (retOf d res).2)).put d (retOf d res).1)

/-- There is a value, and of it f holds. -/
def andT {α : Type} (x : Option α) (f : α → Prop) : Prop := ∃ r, x = some r ∧ f r

def noisy : Op → Bool
  | .buildSlice .. => true
  | _ => false

def wpOp (P : Program) (rg : Rg) (o : Oper) (st : St) (K : St → Prop) : Prop :=
  match o.op with
  | .call { callee := .value (.func f), args := args, .. } => CallK P f (rg.mute o.dst) st (args.toList.map st.ev) o.dst K
  | op => andT (muted (noisy op && rg.mute o.dst) (o.dst.getD 0) (evOp P (o.dst.getD 0) st op)) fun r => K (st.eff' o.dst r.1 r.2)

/-- A guard: is the operation carried out? -/
def guardA (st : St) (ops : Array Oper) : Option (Nat × Bool) → Option Bool
  | none => some true
  | some (j, want) => match ((ops[j]?).bind (·.dst)).map st.tm with
    | some (.t (.v (.bool b))) => some (b == want)
    | some (.tup []) => some false
    | _ => none

/-- Both ways, where it isn't decided. -/
def onB (b : Bool) (p q : Prop) : Prop := if b = true then p else q

def wpL (P : Program) (rg : Rg) : List Oper → St → (St → Prop) → Prop
  | [], st, K => K st
  | o :: l, st, K => andT (guardA st rg.ops o.guard) fun b => onB b (wpOp P rg o st fun st' => wpL P rg l st' K) (wpL P rg l (st.put o.dst (.tup [])) K)

mutual
def AV.kill (ds : List Nat) : AV → AV
  | .row id sz i n => if id.1 ∈ ds then .bad else .row id sz i n
  | .ptr id i j => if id.1 ∈ ds then .bad else .ptr id i j
  | .agg cs => .agg (AV.kills ds cs)
  | .tup cs => .tup (AV.kills ds cs)
  | v => v
def AV.kills (ds : List Nat) : List AV → List AV
  | [] => []
  | v :: vs => v.kill ds :: AV.kills ds vs
end

def Ob.kill (ds : List Nat) : Ob → Ob
  | .var cs => .var (AV.kills ds cs)
  | o => o

/-- The temporaries at which this region makes objects. -/
def makes : List Oper → List Nat
  | [] => []
  | o :: l => (match o.op with
    | .alloc _ | .box .. | .buildSlice .. | .makeSlice .. => o.dst.toList
    | .call { callee := .builtin .len, .. } => []
    | .call _ => o.dst.toList
    | _ => []) ++ makes l

def St.kill (s : St) (ds : List Nat) : St :=
  if ds = [] then s else { tm := fun t => (s.tm t).kill ds, ob := fun id => if id.1 ∈ ds then none else (s.ob id).map (Ob.kill ds) }

inductive Ex where
  | normal
  | exit (id : Nat)
  | ret

def boolA : AV → Option Bool
  | .t (.v (.bool b)) => some b
  | _ => none

def wpC (P : Program) (lo : Nat → List Nat) : Code → (Ex → St → Prop) → St → Prop
  | .skip, Q, st => Q .normal st
  | .region id ops dr, Q, st => wpL P ⟨ops, dr, lo id⟩ ops.toList (st.kill (makes ops.toList)) (Q .normal)
  | .seq a b, Q, st => wpC P lo a (fun e st' => match e with | .normal => wpC P lo b Q st' | e => Q e st') st
  | .cond c x y, Q, st => andT (boolA (st.ev c)) fun b => onB b (wpC P lo x Q st) (wpC P lo y Q st)
  | .block id c, Q, st => wpC P lo c (fun e st' => match e with | .exit i => if i = id then Q .normal st' else Q (.exit i) st' | e => Q e st') st
  | .loop c, Q, st => ∃ (I : St → Prop) (μ : St → Nat), I st ∧ ∀ st, I st → wpC P lo c (fun e st' => match e with | .normal => I st' ∧ μ st' < μ st | e => Q e st') st
  | .exit id, Q, st => Q (.exit id) st
  | .ret, Q, st => Q .ret st
  | .scope c, Q, st => wpC P lo c Q st
  | _, _, _ => False

/-! ### the function -/
/-- The arguments' objects have ids from here on. -/
def base : Nat := 100000

def St.enter (as : List Arg) : St where
  tm := fun t => match as[t]? with
    | some (.val x) => .t x
    | some (.agg xs) => .agg (xs.map .t)
    | some (.mrow sz es) => .row (base + t, 0) sz 0 es.length
    | some (.mvar _) => .ptr (base + t, 0) 0 0
    | none => .bad
  ob := fun id => if base ≤ id.1 ∧ id.2 = 0 then match as[id.1 - base]? with
    | some (.mrow sz es) => some (.row sz es)
    | some (.mvar cs) => some (.var (cs.map .t))
    | _ => none else none

def argTm (as : List Arg) (k : Nat) : AV :=
  match as[k]? with
  | some (.val x) => .t x
  | some (.agg xs) => .agg (xs.map .t)
  | some (.mrow sz es) => .row (base + k, 0) sz 0 es.length
  | some (.mvar _) => .ptr (base + k, 0) 0 0
  | none => .bad
def enterTm (as : List Arg) : Shape → Nat → Nat → AV
  | [], _, _ => .bad
  | none :: _, k, 0 => argTm as k
  | none :: sh, k, t + 1 => enterTm as sh (k + 1) t
  | some n :: _, k, 0 => .agg ((List.range n).map fun j => argTm as (k + j))
  | some n :: sh, k, t + 1 => enterTm as sh (k + n) t
def St.enterS (sh : Shape) (as : List Arg) : St := { (St.enter as) with tm := enterTm as sh 0 }

mutual
def St.toRV (s : St) : AV → Option RV
  | .t x => some (.t x)
  | .row id _ i n => match s.ob id with
    | some (.row sz es) => if i = 0 ∧ n = es.length then some (.own sz es) else some (.t (.sl (window es i n)))
    | some (.frz _ es) => some (.t (.sl (window es i n)))
    | _ => none
  | .ptr id i j => if i = 0 ∧ j = 0 then match s.ob id with
    | some (.var cs) => (s.toTs cs).map .var
    | _ => none
    else none
  | .agg cs => (s.toRVs cs).map .agg
  | .tup cs => (s.toRVs cs).map .tup
  | _ => none
def St.toRVs (s : St) : List AV → Option (List RV)
  | [] => some []
  | v :: vs => match s.toRV v, s.toRVs vs with
    | some r, some rs => some (r :: rs)
    | _, _ => none
end

/-! ### the rules by which states are reckoned out -/


@[simp] theorem andT_some {α : Type} (r : α) (f : α → Prop) : andT (some r) f = f r := by simp [andT]
@[simp] theorem andT_none {α : Type} (f : α → Prop) : andT none f = False := by simp [andT]
@[simp] theorem onB_true (p q : Prop) : onB true p q = p := rfl
@[simp] theorem onB_false (p q : Prop) : onB false p q = q := by simp [onB]

@[simp] theorem ev_tmp (s : St) (t : Nat) : s.ev (.tmp t) = s.tm t := rfl
@[simp] theorem ev_int (s : St) (k : IntKind) (n : Int) : s.ev (.const (.int k n)) = .t (.v (.int k n)) := rfl
@[simp] theorem ev_bool (s : St) (b : Bool) : s.ev (.const (.bool b)) = .t (.v (.bool b)) := rfl
@[simp] theorem ev_str (s : St) (b : ByteArray) : s.ev (.const (.string b)) = .t (.v (.string b)) := rfl
@[simp] theorem ev_nil (s : St) : s.ev (.const (.slice none 0 0)) = .t (.v (.slice none 0 0)) := rfl
@[simp] theorem ev_agg (s : St) (cs : Array Value) : s.ev (.const (.agg cs)) = if cs.all plain then .agg (cs.toList.map fun u => .t (.v u)) else .bad := rfl
@[simp] theorem ev_nilptr (s : St) : s.ev (.const (.pointer none)) = .t (.v (.pointer none)) := rfl

@[simp] theorem tm_put_same (s : St) (t : Nat) (v : AV) : (s.put (some t) v).tm t = v := by simp [St.put]
@[simp] theorem tm_put (s : St) (d t : Nat) (v : AV) : (s.put (some d) v).tm t = if t = d then v else s.tm t := rfl
theorem tm_put_ne (s : St) (d t : Nat) (v : AV) (h : t ≠ d) : (s.put (some d) v).tm t = s.tm t := by
  rw [tm_put, if_neg h]
@[simp] theorem put_none (s : St) (v : AV) : s.put none v = s := rfl
@[simp] theorem ob_put (s : St) (d : Option Nat) (v : AV) : (s.put d v).ob = s.ob := by cases d <;> rfl
@[simp] theorem eff_nil (s : St) : s.eff [] = s := rfl
@[simp] theorem eff_cons (s : St) (id : Id) (o : Option Ob) (l : Eff) : s.eff ((id, o) :: l) = (s.setOb id o).eff l := rfl
@[simp] theorem eff'_def (s : St) (d : Option Nat) (v : AV) (f : Eff) : s.eff' d v f = (s.eff f).put d v := rfl
@[simp] theorem tm_setOb (s : St) (id : Id) (o : Option Ob) : (s.setOb id o).tm = s.tm := rfl
@[simp] theorem ob_setOb_same (s : St) (id : Id) (o : Option Ob) : (s.setOb id o).ob id = o := by simp [St.setOb]
@[simp] theorem ob_setOb (s : St) (a b c d : Nat) (o : Option Ob) : (s.setOb (a, b) o).ob (c, d) = if c = a ∧ d = b then o else s.ob (c, d) := by
  simp [St.setOb]
@[simp] theorem kill_nil (s : St) : s.kill [] = s := by simp [St.kill]
@[simp] theorem tm_kill (s : St) (d : Nat) (ds : List Nat) (t : Nat) : (s.kill (d :: ds)).tm t = (s.tm t).kill (d :: ds) := by simp [St.kill]
@[simp] theorem ob_kill (s : St) (d : Nat) (ds : List Nat) (a b : Nat) : (s.kill (d :: ds)).ob (a, b) = if (d :: ds).contains a then none else (s.ob (a, b)).map (Ob.kill (d :: ds)) := by simp [St.kill]
@[simp] theorem kill_t (ds : List Nat) (x : T) : (AV.t x).kill ds = .t x := by simp [AV.kill]
@[simp] theorem kill_roptr (ds : List Nat) (x : List T) : (AV.roptr x).kill ds = .roptr x := by simp [AV.kill]
@[simp] theorem kill_bad (ds : List Nat) : AV.bad.kill ds = .bad := by simp [AV.kill]
@[simp] theorem kill_row (ds : List Nat) (a b sz i n : Nat) : (AV.row (a, b) sz i n).kill ds = if ds.contains a then .bad else .row (a, b) sz i n := by simp [AV.kill]
@[simp] theorem kill_ptr (ds : List Nat) (a b i n : Nat) : (AV.ptr (a, b) i n).kill ds = if ds.contains a then .bad else .ptr (a, b) i n := by simp [AV.kill]
@[simp] theorem kill_agg (ds : List Nat) (cs : List AV) : (AV.agg cs).kill ds = .agg (AV.kills ds cs) := by simp [AV.kill]
@[simp] theorem kill_tup (ds : List Nat) (cs : List AV) : (AV.tup cs).kill ds = .tup (AV.kills ds cs) := by simp [AV.kill]
@[simp] theorem kills_nil (ds : List Nat) : AV.kills ds [] = [] := by simp [AV.kills]
@[simp] theorem kills_cons (ds : List Nat) (v : AV) (vs : List AV) : AV.kills ds (v :: vs) = v.kill ds :: AV.kills ds vs := by simp [AV.kills]
@[simp] theorem kills_map_t (ds : List Nat) (xs : List T) : AV.kills ds (xs.map .t) = xs.map .t := by induction xs <;> simp_all
@[simp] theorem obkill_var (ds : List Nat) (cs : List AV) : (Ob.var cs).kill ds = .var (AV.kills ds cs) := rfl
@[simp] theorem obkill_row (ds : List Nat) (sz : Nat) (es : List (List T)) : (Ob.row sz es).kill ds = .row sz es := rfl
@[simp] theorem obkill_frz (ds : List Nat) (sz : Nat) (es : List (List T)) : (Ob.frz sz es).kill ds = .frz sz es := rfl

attribute [simp] makes boolA
/-- An operation's outcome, and what follows: as data, so that simp doesn't look into what follows. -/
def stepT (P : Program) (rg : Rg) (l : List Oper) (st : St) (d : Option Nat) (x : Option (AV × Eff)) (K : St → Prop) : Prop := andT x fun r => wpL P rg l (st.eff' d r.1 r.2) K
def CallL (P : Program) (f : FuncId) (st : St) (vs : List AV) (d : Option Nat) (rg : Rg) (l : List Oper) (K : St → Prop) : Prop := CallK P f (rg.mute d) st vs d fun st' => wpL P rg l st' K
def guardT (P : Program) (rg : Rg) (o : Oper) (l : List Oper) (st : St) (g : Option Bool) (K : St → Prop) : Prop :=
  andT g fun b => onB b (wpOp P rg o st fun st' => wpL P rg l st' K) (wpL P rg l (st.put o.dst (.tup [])) K)
@[simp] theorem stepT_some (P : Program) (rg : Rg) (l : List Oper) (st : St) (d : Option Nat) (r : AV × Eff) (K : St → Prop) : stepT P rg l st d (some r) K = wpL P rg l ((st.eff r.2).put d r.1) K := by simp [stepT, St.eff']
@[simp] theorem stepT_none (P : Program) (rg : Rg) (l : List Oper) (st : St) (d : Option Nat) (K : St → Prop) : stepT P rg l st d none K = False := by simp [stepT]
theorem stepT_ite {c : Prop} [Decidable c] {P : Program} {rg : Rg} {l : List Oper} {st : St} {d : Option Nat} {x y : Option (AV × Eff)} {K : St → Prop} (h1 : c → stepT P rg l st d x K) (h2 : ¬ c → stepT P rg l st d y K) : stepT P rg l st d (if c then x else y) K := by
  split
  · exact h1 (by assumption)
  · exact h2 (by assumption)
@[simp] theorem wpL_nil (P : Program) (rg : Rg) (st : St) (K : St → Prop) : wpL P rg [] st K = K st := rfl
@[simp] theorem wpL_move (P : Program) (rg : Rg) (l : List Oper) (d : Option Nat) (x : Operand) (t : TypeId) (pos : String) (af : Array Edge) (st : St) (K : St → Prop) : wpL P rg (⟨d, .move x, t, pos, af, none⟩ :: l) st K = wpL P rg l (st.put d (st.ev x)) K := by simp [wpL, guardA, wpOp, evOp, St.eff', noisy, muted]
@[simp] theorem wpL_assign (P : Program) (rg : Rg) (l : List Oper) (d : Option Nat) (x : Operand) (t : TypeId) (pos : String) (af : Array Edge) (st : St) (K : St → Prop) : wpL P rg (⟨d, .assign x, t, pos, af, none⟩ :: l) st K = stepT P rg l st d (evOp P (d.getD 0) st (.assign x)) K := by simp only [wpL, guardA, andT_some, onB_true]; rfl
@[simp] theorem wpL_pick (P : Program) (rg : Rg) (l : List Oper) (d : Option Nat) (a b c : Operand) (t : TypeId) (pos : String) (af : Array Edge) (st : St) (K : St → Prop) : wpL P rg (⟨d, .pick a b c, t, pos, af, none⟩ :: l) st K = stepT P rg l st d (evOp P (d.getD 0) st (.pick a b c)) K := by simp only [wpL, guardA, andT_some, onB_true]; rfl
@[simp] theorem wpL_alloc (P : Program) (rg : Rg) (l : List Oper) (d : Option Nat) (e : TypeId) (t : TypeId) (pos : String) (af : Array Edge) (st : St) (K : St → Prop) : wpL P rg (⟨d, .alloc e, t, pos, af, none⟩ :: l) st K = stepT P rg l st d (evOp P (d.getD 0) st (.alloc e)) K := by simp only [wpL, guardA, andT_some, onB_true]; rfl
@[simp] theorem wpL_box (P : Program) (rg : Rg) (l : List Oper) (d : Option Nat) (e : TypeId) (x : Operand) (t : TypeId) (pos : String) (af : Array Edge) (st : St) (K : St → Prop) : wpL P rg (⟨d, .box e x, t, pos, af, none⟩ :: l) st K = stepT P rg l st d (evOp P (d.getD 0) st (.box e x)) K := by simp only [wpL, guardA, andT_some, onB_true]; rfl
@[simp] theorem wpL_build (P : Program) (rg : Rg) (l : List Oper) (d : Option Nat) (e : TypeId) (ps : Array (Nat × Operand)) (t : TypeId) (pos : String) (af : Array Edge) (st : St) (K : St → Prop) : wpL P rg (⟨d, .build e ps, t, pos, af, none⟩ :: l) st K = stepT P rg l st d (evOp P (d.getD 0) st (.build e ps)) K := by simp only [wpL, guardA, andT_some, onB_true]; rfl
@[simp] theorem wpL_buildSlice (P : Program) (rg : Rg) (l : List Oper) (d : Option Nat) (e : TypeId) (n : Nat) (ps : Array (Nat × Operand)) (t : TypeId) (pos : String) (af : Array Edge) (st : St) (K : St → Prop) : wpL P rg (⟨d, .buildSlice e n ps, t, pos, af, none⟩ :: l) st K = stepT P rg l st d (muted (rg.mute d) (d.getD 0) (evOp P (d.getD 0) st (.buildSlice e n ps))) K := by simp only [wpL, guardA, andT_some, onB_true]; rfl
@[simp] theorem wpL_load (P : Program) (rg : Rg) (l : List Oper) (d : Option Nat) (e : TypeId) (x : Operand) (t : TypeId) (pos : String) (af : Array Edge) (st : St) (K : St → Prop) : wpL P rg (⟨d, .load e x, t, pos, af, none⟩ :: l) st K = stepT P rg l st d (evOp P (d.getD 0) st (.load e x)) K := by simp only [wpL, guardA, andT_some, onB_true]; rfl
@[simp] theorem wpL_store (P : Program) (rg : Rg) (l : List Oper) (d : Option Nat) (e : TypeId) (x y : Operand) (t : TypeId) (pos : String) (af : Array Edge) (st : St) (K : St → Prop) : wpL P rg (⟨d, .store e x y, t, pos, af, none⟩ :: l) st K = stepT P rg l st d (evOp P (d.getD 0) st (.store e x y)) K := by simp only [wpL, guardA, andT_some, onB_true]; rfl
@[simp] theorem wpL_nilCheck (P : Program) (rg : Rg) (l : List Oper) (d : Option Nat) (x : Operand) (t : TypeId) (pos : String) (af : Array Edge) (st : St) (K : St → Prop) : wpL P rg (⟨d, .nilCheck x, t, pos, af, none⟩ :: l) st K = stepT P rg l st d (evOp P (d.getD 0) st (.nilCheck x)) K := by simp only [wpL, guardA, andT_some, onB_true]; rfl
@[simp] theorem wpL_binOp (P : Program) (rg : Rg) (l : List Oper) (d : Option Nat) (o : BinOp) (e : TypeId) (x y : Operand) (e2 : TypeId) (t : TypeId) (pos : String) (af : Array Edge) (st : St) (K : St → Prop) : wpL P rg (⟨d, .binOp o e x y e2, t, pos, af, none⟩ :: l) st K = stepT P rg l st d (evOp P (d.getD 0) st (.binOp o e x y e2)) K := by simp only [wpL, guardA, andT_some, onB_true]; rfl
@[simp] theorem wpL_unOp (P : Program) (rg : Rg) (l : List Oper) (d : Option Nat) (o : UnOp) (e : TypeId) (x : Operand) (t : TypeId) (pos : String) (af : Array Edge) (st : St) (K : St → Prop) : wpL P rg (⟨d, .unOp o e x, t, pos, af, none⟩ :: l) st K = stepT P rg l st d (evOp P (d.getD 0) st (.unOp o e x)) K := by simp only [wpL, guardA, andT_some, onB_true]; rfl
@[simp] theorem wpL_convert (P : Program) (rg : Rg) (l : List Oper) (d : Option Nat) (e e2 : TypeId) (x : Operand) (t : TypeId) (pos : String) (af : Array Edge) (st : St) (K : St → Prop) : wpL P rg (⟨d, .convert e e2 x, t, pos, af, none⟩ :: l) st K = stepT P rg l st d (evOp P (d.getD 0) st (.convert e e2 x)) K := by simp only [wpL, guardA, andT_some, onB_true]; rfl
@[simp] theorem wpL_slice (P : Program) (rg : Rg) (l : List Oper) (d : Option Nat) (e : TypeId) (x : Operand) (a b c : Option Operand) (t : TypeId) (pos : String) (af : Array Edge) (st : St) (K : St → Prop) : wpL P rg (⟨d, .slice e x a b c, t, pos, af, none⟩ :: l) st K = stepT P rg l st d (evOp P (d.getD 0) st (.slice e x a b c)) K := by simp only [wpL, guardA, andT_some, onB_true]; rfl
@[simp] theorem wpL_fieldAddr (P : Program) (rg : Rg) (l : List Oper) (d : Option Nat) (e : TypeId) (x : Operand) (f : Nat) (t : TypeId) (pos : String) (af : Array Edge) (st : St) (K : St → Prop) : wpL P rg (⟨d, .fieldAddr e x f, t, pos, af, none⟩ :: l) st K = stepT P rg l st d (evOp P (d.getD 0) st (.fieldAddr e x f)) K := by simp only [wpL, guardA, andT_some, onB_true]; rfl
@[simp] theorem wpL_field (P : Program) (rg : Rg) (l : List Oper) (d : Option Nat) (e : TypeId) (x : Operand) (f : Nat) (t : TypeId) (pos : String) (af : Array Edge) (st : St) (K : St → Prop) : wpL P rg (⟨d, .field e x f, t, pos, af, none⟩ :: l) st K = stepT P rg l st d (evOp P (d.getD 0) st (.field e x f)) K := by simp only [wpL, guardA, andT_some, onB_true]; rfl
@[simp] theorem wpL_indexAddr (P : Program) (rg : Rg) (l : List Oper) (d : Option Nat) (e : TypeId) (x y : Operand) (t : TypeId) (pos : String) (af : Array Edge) (st : St) (K : St → Prop) : wpL P rg (⟨d, .indexAddr e x y, t, pos, af, none⟩ :: l) st K = stepT P rg l st d (evOp P (d.getD 0) st (.indexAddr e x y)) K := by simp only [wpL, guardA, andT_some, onB_true]; rfl
@[simp] theorem wpL_index (P : Program) (rg : Rg) (l : List Oper) (d : Option Nat) (e : TypeId) (x y : Operand) (t : TypeId) (pos : String) (af : Array Edge) (st : St) (K : St → Prop) : wpL P rg (⟨d, .index e x y, t, pos, af, none⟩ :: l) st K = stepT P rg l st d (evOp P (d.getD 0) st (.index e x y)) K := by simp only [wpL, guardA, andT_some, onB_true]; rfl
@[simp] theorem wpL_extract (P : Program) (rg : Rg) (l : List Oper) (d : Option Nat) (x : Operand) (i : Nat) (t : TypeId) (pos : String) (af : Array Edge) (st : St) (K : St → Prop) : wpL P rg (⟨d, .extract x i, t, pos, af, none⟩ :: l) st K = stepT P rg l st d (evOp P (d.getD 0) st (.extract x i)) K := by simp only [wpL, guardA, andT_some, onB_true]; rfl
@[simp] theorem wpL_makeSlice (P : Program) (rg : Rg) (l : List Oper) (d : Option Nat) (e : TypeId) (x y : Operand) (t : TypeId) (pos : String) (af : Array Edge) (st : St) (K : St → Prop) : wpL P rg (⟨d, .makeSlice e x y, t, pos, af, none⟩ :: l) st K = stepT P rg l st d (evOp P (d.getD 0) st (.makeSlice e x y)) K := by simp only [wpL, guardA, andT_some, onB_true]; rfl
@[simp] theorem wpL_builtin (P : Program) (rg : Rg) (l : List Oper) (d : Option Nat) (b : Builtin) (xs : Array Operand) (ts : Array TypeId) (t : TypeId) (pos : String) (af : Array Edge) (st : St) (K : St → Prop) : wpL P rg (⟨d, .call ⟨.builtin b, xs, ts⟩, t, pos, af, none⟩ :: l) st K = stepT P rg l st d (evOp P (d.getD 0) st (.call ⟨.builtin b, xs, ts⟩)) K := by simp only [wpL, guardA, andT_some, onB_true]; rfl
@[simp] theorem wpL_call (P : Program) (rg : Rg) (l : List Oper) (d : Option Nat) (f : FuncId) (xs : Array Operand) (ts : Array TypeId) (t : TypeId) (pos : String) (af : Array Edge) (st : St) (K : St → Prop) : wpL P rg (⟨d, .call ⟨.value (.func f), xs, ts⟩, t, pos, af, none⟩ :: l) st K = CallL P f st (xs.toList.map st.ev) d rg l K := by simp only [wpL, guardA, andT_some, onB_true]; rfl
@[simp] theorem wpL_guard (P : Program) (rg : Rg) (l : List Oper) (d : Option Nat) (op : Op) (g : Nat × Bool) (t : TypeId) (pos : String) (af : Array Edge) (st : St) (K : St → Prop) : wpL P rg (⟨d, op, t, pos, af, some g⟩ :: l) st K = guardT P rg ⟨d, op, t, pos, af, some g⟩ l st (guardA st rg.ops (some g)) K := rfl
@[simp] theorem guardT_true (P : Program) (rg : Rg) (l : List Oper) (d : Option Nat) (op : Op) (g : Option (Nat × Bool)) (t : TypeId) (pos : String) (af : Array Edge) (st : St) (K : St → Prop) : guardT P rg ⟨d, op, t, pos, af, g⟩ l st (some true) K = wpL P rg (⟨d, op, t, pos, af, none⟩ :: l) st K := by simp only [wpL, guardA, guardT, andT_some, onB_true]; rfl
@[simp] theorem guardT_false (P : Program) (rg : Rg) (l : List Oper) (d : Option Nat) (op : Op) (g : Option (Nat × Bool)) (t : TypeId) (pos : String) (af : Array Edge) (st : St) (K : St → Prop) : guardT P rg ⟨d, op, t, pos, af, g⟩ l st (some false) K = wpL P rg l (st.put d (.tup [])) K := by simp only [guardT, andT_some, onB_false]
theorem guardT_of {P : Program} {rg : Rg} {o : Oper} {l : List Oper} {st : St} {b : Bool} {K : St → Prop} (h1 : b = true → guardT P rg o l st (some true) K) (h2 : b = false → guardT P rg o l st (some false) K) : guardT P rg o l st (some b) K := by
  cases b
  · exact h2 rfl
  · exact h1 rfl
/-- Equal; not to be looked into. -/
def beqB (b want : Bool) : Bool := b == want
@[simp] theorem beqB_tt : beqB true true = true := rfl
@[simp] theorem beqB_tf : beqB true false = false := rfl
@[simp] theorem beqB_ft : beqB false true = false := rfl
@[simp] theorem beqB_ff : beqB false false = true := rfl
@[simp] theorem guardA_some (st : St) (ops : Array Oper) (j : Nat) (want : Bool) : guardA st ops (some (j, want)) = match ((ops[j]?).bind (·.dst)).map st.tm with
    | some (.t (.v (.bool b))) => some (beqB b want)
    | some (.tup []) => some false
    | _ => none := rfl
theorem guardT_or {P : Program} {rg : Rg} {o : Oper} {l : List Oper} {st : St} {b want : Bool} {K : St → Prop} (h1 : b = true → guardT P rg o l st (some (beqB true want)) K) (h2 : b = false → guardT P rg o l st (some (beqB false want)) K) : guardT P rg o l st (some (beqB b want)) K := by
  cases b
  · exact h2 rfl
  · exact h1 rfl
attribute [simp] evOp callA AV.cells AV.one asOne nilA fieldAddrA fieldA indexAddrO extractA intA
@[simp] theorem pickA_bool (t : Bool) (a b : AV) : pickA (.t (.v (.bool t))) a b = some (if t = true then a else b, []) := rfl
@[simp] theorem binA_v (op : BinOp) (ty : Bool) (a b : Value) : binA op ty (.t (.v a)) (.t (.v b)) = (binV op ty a b).map fun u => (.t (.v u), []) := rfl
@[simp] theorem unA_v (op : UnOp) (a : Value) : unA op (.t (.v a)) = (unV op a).map fun u => (.t (.v u), []) := rfl
@[simp] theorem binV_add (ty : Bool) (k : IntKind) (a b : Int) : binV .add ty (.int k a) (.int k b) = some (.int k (k.wrap (a + b))) := by simp [binV]
@[simp] theorem binV_sub (ty : Bool) (k : IntKind) (a b : Int) : binV .sub ty (.int k a) (.int k b) = some (.int k (k.wrap (a - b))) := by simp [binV]
@[simp] theorem binV_mul (ty : Bool) (k : IntKind) (a b : Int) : binV .mul ty (.int k a) (.int k b) = some (.int k (k.wrap (a * b))) := by simp [binV]
@[simp] theorem binV_quo (ty : Bool) (k : IntKind) (a b : Int) : binV .quo ty (.int k a) (.int k b) = if b = 0 then none else some (.int k (k.wrap (a.tdiv b))) := by simp [binV]
@[simp] theorem binV_rem (ty : Bool) (k : IntKind) (a b : Int) : binV .rem ty (.int k a) (.int k b) = if b = 0 then none else some (.int k (a.tmod b)) := by simp [binV]
@[simp] theorem binV_eql (ty : Bool) (k : IntKind) (a b : Int) : binV .eql ty (.int k a) (.int k b) = some (.bool (a == b)) := by simp [binV]
@[simp] theorem binV_neq (ty : Bool) (k : IntKind) (a b : Int) : binV .neq ty (.int k a) (.int k b) = some (.bool (a != b)) := by simp [binV]
@[simp] theorem binV_lss (ty : Bool) (k : IntKind) (a b : Int) : binV .lss ty (.int k a) (.int k b) = some (.bool (a < b)) := by simp [binV]
@[simp] theorem binV_leq (ty : Bool) (k : IntKind) (a b : Int) : binV .leq ty (.int k a) (.int k b) = some (.bool (a ≤ b)) := by simp [binV]
@[simp] theorem binV_gtr (ty : Bool) (k : IntKind) (a b : Int) : binV .gtr ty (.int k a) (.int k b) = some (.bool (a > b)) := by simp [binV]
@[simp] theorem binV_geq (ty : Bool) (k : IntKind) (a b : Int) : binV .geq ty (.int k a) (.int k b) = some (.bool (a ≥ b)) := by simp [binV]
@[simp] theorem binV_beql (a b : Bool) : binV .eql true (.bool a) (.bool b) = some (.bool (a == b)) := rfl
@[simp] theorem binV_bneq (a b : Bool) : binV .neq true (.bool a) (.bool b) = some (.bool !(a == b)) := rfl
@[simp] theorem isBoolT_bool : isBoolT (some .bool) = true := rfl
@[simp] theorem unV_not (b : Bool) : unV .not (.bool b) = some (.bool !b) := rfl
@[simp] theorem unV_neg (k : IntKind) (n : Int) : unV .neg (.int k n) = some (.int k (k.wrap (0 - n))) := rfl
@[simp] theorem loadA_roptr (st : St) (agg : Bool) (size : Nat) (cs : List T) : loadA st agg size (.roptr cs) = if size ≤ cs.length then asOne agg ((cs.take size).map .t) else none := rfl
@[simp] theorem loadA_ptr (st : St) (agg : Bool) (size : Nat) (id : Id) (i j : Nat) : loadA st agg size (.ptr id i j) = match st.ob id with
    | some (.var cs) => if i = 0 ∧ j + size ≤ cs.length then asOne agg ((cs.drop j).take size) else none
    | some (.row _ es) | some (.frz _ es) => match es[i]? with
      | some e => if j + size ≤ e.length then asOne agg (((e.drop j).take size).map .t) else none
      | none => none
    | none => none := rfl

/-- int64 read of a list. -/
def rd (xs : List Int) (i : Int) : Int := xs.getD i.toNat 0
def ints (l : List Int) : T := .sl (l.map fun x => [.v (.int .i64 x)])
@[simp] theorem lenA_ints (k : Nat) (l : List Int) : lenA (.sl k) (.t (ints l)) = some l.length := by simp [lenA, ints]
@[simp] theorem lenA_sl (k : Nat) (es : List (List T)) : lenA (.sl k) (.t (.sl es)) = some es.length := rfl
@[simp] theorem lenA_row (k : Nat) (id : Id) (sz i n : Nat) : lenA (.sl k) (.row id sz i n) = some n := rfl
@[simp] theorem lenA_str (s : ByteArray) : lenA .str (.t (.v (.string s))) = some s.size := rfl
@[simp] theorem lenA_nil (k : Nat) : lenA (.sl k) (.t (.v (.slice none 0 0))) = some 0 := rfl
theorem rd_at {xs : List Int} {i : Int} (h0 : 0 ≤ i) (h1 : i < xs.length) : xs[i.toNat]? = some (rd xs i) := by
  unfold rd
  rw [List.getD_eq_getElem?_getD, List.getElem?_eq_getElem (by omega)]
  rfl
@[simp] theorem index_ints (e : Nat) (ag : Bool) (b : Nat) (z : List Value) (l : List Int) (i : Int) (h0 : 0 ≤ i) (h1 : i < l.length) :
    indexAddrA (some (e, ⟨ag, 1, b, z⟩)) (.t (ints l)) i = some (.roptr [.v (.int .i64 (rd l i))]) := by
  simp [indexAddrA, ints, h0, rd_at h0 h1]
@[simp] theorem wrap_add (a b : Int) (h0 : -9223372036854775808 ≤ a + b) (h1 : a + b < 9223372036854775808) : IntKind.i64.wrap (a + b) = a + b := IntWalk.i64_in _ (by omega)
@[simp] theorem wrap_sub (a b : Int) (h0 : -9223372036854775808 ≤ a - b) (h1 : a - b < 9223372036854775808) : IntKind.i64.wrap (a - b) = a - b := IntWalk.i64_in _ (by omega)
@[simp] theorem wrap_nat (n : Nat) (h1 : n < 9223372036854775808) : IntKind.i64.wrap (n : Int) = n := IntWalk.i64_in _ (by omega)
theorem wrap_in {x : Int} (h0 : -9223372036854775808 ≤ x) (h1 : x < 9223372036854775808) : IntKind.i64.wrap x = x := by
  have := IntWalk.i64_in x (by omega)
  exact this


def thenQ (K : St → Prop) (Q : Ex → St → Prop) : Ex → St → Prop
  | .normal, s => K s
  | e, s => Q e s
def inBlk (id : Nat) (Q : Ex → St → Prop) : Ex → St → Prop
  | .exit i, s => if i = id then Q .normal s else Q (.exit i) s
  | e, s => Q e s
@[simp] theorem thenQ_normal (K : St → Prop) (Q : Ex → St → Prop) (s : St) : thenQ K Q .normal s = K s := rfl
@[simp] theorem thenQ_exit (K : St → Prop) (Q : Ex → St → Prop) (s : St) (i : Nat) : thenQ K Q (.exit i) s = Q (.exit i) s := rfl
@[simp] theorem thenQ_ret (K : St → Prop) (Q : Ex → St → Prop) (s : St) : thenQ K Q .ret s = Q .ret s := rfl
@[simp] theorem inBlk_normal (id : Nat) (Q : Ex → St → Prop) (s : St) : inBlk id Q .normal s = Q .normal s := rfl
@[simp] theorem inBlk_ret (id : Nat) (Q : Ex → St → Prop) (s : St) : inBlk id Q .ret s = Q .ret s := rfl
@[simp] theorem inBlk_exit_same (id : Nat) (Q : Ex → St → Prop) (s : St) : inBlk id Q (.exit id) s = Q .normal s := by simp [inBlk]
@[simp] theorem inBlk_exit_ne (id i : Nat) (Q : Ex → St → Prop) (s : St) (h : i ≠ id) : inBlk id Q (.exit i) s = Q (.exit i) s := by simp [inBlk, h]

theorem andT_mono {α : Type} {x : Option α} {f g : α → Prop} (h : andT x f) (hg : ∀ r, f r → g r) : andT x g := by
  obtain ⟨r, h1, h2⟩ := h
  exact ⟨r, h1, hg r h2⟩
theorem onB_mono {b : Bool} {p q p' q' : Prop} (h : onB b p q) (hp : p → p') (hq : q → q') : onB b p' q' := by
  cases b
  · exact hq h
  · exact hp h
theorem wpOp_mono {P : Program} {rg : Rg} {o : Oper} {st : St} {K K' : St → Prop} (h : wpOp P rg o st K) (hk : ∀ s, K s → K' s) : wpOp P rg o st K' := by
  unfold wpOp at *
  split at h
  · obtain ⟨sh, vsF, as, res, outs, keep, h0, h1, h2, h3, h4, h5, h6⟩ := h
    exact ⟨sh, vsF, as, res, outs, keep, h0, h1, h2, h3, h4, h5, hk _ h6⟩
  · exact andT_mono h fun r hr => hk _ hr
theorem wpL_mono {P : Program} {rg : Rg} : ∀ {l : List Oper} {st : St} {K K' : St → Prop}, wpL P rg l st K → (∀ s, K s → K' s) → wpL P rg l st K'
  | [], _, _, _, h, hk => hk _ h
  | _ :: _, _, _, _, h, hk => by
    unfold wpL at *
    exact andT_mono h fun b hb => onB_mono hb (fun h1 => wpOp_mono h1 fun s hs => wpL_mono hs hk) (fun h1 => wpL_mono h1 hk)
theorem wpC_mono {P : Program} {lo : Nat → List Nat} : ∀ (c : Code) {Q Q' : Ex → St → Prop} {st : St}, wpC P lo c Q st → (∀ e s, Q e s → Q' e s) → wpC P lo c Q' st
  | .skip, _, _, _, h, hq => hq _ _ h
  | .region _ _ _, _, _, _, h, hq => wpL_mono h fun s hs => hq _ _ hs
  | .seq a b, _, _, _, h, hq => by
    unfold wpC at *
    refine wpC_mono a h fun e s hs => ?_
    cases e
    · exact wpC_mono b hs hq
    · exact hq _ _ hs
    · exact hq _ _ hs
  | .cond c x y, _, _, _, h, hq => by
    unfold wpC at *
    exact andT_mono h fun b hb => onB_mono hb (fun h1 => wpC_mono x h1 hq) (fun h1 => wpC_mono y h1 hq)
  | .block id c, _, _, _, h, hq => by
    unfold wpC at *
    refine wpC_mono c h fun e s hs => ?_
    cases e
    · exact hq _ _ hs
    · dsimp only at hs ⊢
      split
      · rename_i hi; rw [if_pos hi] at hs; exact hq _ _ hs
      · rename_i hi; rw [if_neg hi] at hs; exact hq _ _ hs
    · exact hq _ _ hs
  | .loop c, _, _, _, h, hq => by
    unfold wpC at *
    obtain ⟨I, μ, h0, h1⟩ := h
    refine ⟨I, μ, h0, fun s hs => wpC_mono c (h1 s hs) fun e s' hs' => ?_⟩
    cases e
    · exact hs'
    · exact hq _ _ hs'
    · exact hq _ _ hs'
  | .exit _, _, _, _, h, hq => hq _ _ h
  | .ret, _, _, _, h, hq => hq _ _ h
  | .scope c, _, _, _, h, hq => by
    unfold wpC at *
    exact wpC_mono c h hq
  | .rangeFunc .., _, _, _, h, _ => h.elim
  | .label _, _, _, _, h, _ => h.elim
  | .goto _, _, _, _, h, _ => h.elim
  | .refuse _, _, _, _, h, _ => h.elim
theorem wpC_seq {P : Program} {lo : Nat → List Nat} {a b : Code} {Q : Ex → St → Prop} {st : St}
    (h : ∀ K : St → Prop, (∀ s, wpC P lo b Q s → K s) → wpC P lo a (thenQ K Q) st) : wpC P lo (.seq a b) Q st := by
  unfold wpC
  refine wpC_mono a (h (wpC P lo b Q) fun _ h => h) fun e s hs => ?_
  cases e <;> exact hs
theorem wpC_block {P : Program} {lo : Nat → List Nat} {c : Code} {id : Nat} {Q : Ex → St → Prop} {st : St} (h : wpC P lo c (inBlk id Q) st) : wpC P lo (.block id c) Q st := by
  unfold wpC
  refine wpC_mono c h fun e s hs => ?_
  cases e <;> exact hs
theorem wpC_loop {P : Program} {lo : Nat → List Nat} {c : Code} {Q : Ex → St → Prop} {st : St} (I : St → Prop) (μ : St → Nat) (h0 : I st)
    (h : ∀ s, I s → ∀ K : St → Prop, (∀ s', I s' → μ s' < μ s → K s') → wpC P lo c (thenQ K Q) s) : wpC P lo (.loop c) Q st := by
  unfold wpC
  refine ⟨I, μ, h0, fun s hs => ?_⟩
  refine wpC_mono c (h s hs (fun s' => I s' ∧ μ s' < μ s) fun s' h1 h2 => ⟨h1, h2⟩) fun e s hs => ?_
  cases e <;> exact hs
theorem wpC_cond {P : Program} {lo : Nat → List Nat} {c : Operand} {x y : Code} {Q : Ex → St → Prop} {st : St} {b : Bool} (hb : st.ev c = .t (.v (.bool b))) (h : if b = true then wpC P lo x Q st else wpC P lo y Q st) : wpC P lo (.cond c x y) Q st := by
  unfold wpC
  rw [hb]
  simpa [onB] using h
@[simp] theorem wpC_region (P : Program) (lo : Nat → List Nat) (id : Nat) (ops : Array Oper) (d : Bool) (Q : Ex → St → Prop) (st : St) : wpC P lo (.region id ops d) Q st = wpL P ⟨ops, d, lo id⟩ ops.toList (st.kill (makes ops.toList)) (Q .normal) := rfl
@[simp] theorem wpC_skip (P : Program) (lo : Nat → List Nat) (Q : Ex → St → Prop) (st : St) : wpC P lo .skip Q st = Q .normal st := rfl
@[simp] theorem wpC_exit (P : Program) (lo : Nat → List Nat) (id : Nat) (Q : Ex → St → Prop) (st : St) : wpC P lo (.exit id) Q st = Q (.exit id) st := rfl
@[simp] theorem wpC_ret (P : Program) (lo : Nat → List Nat) (Q : Ex → St → Prop) (st : St) : wpC P lo .ret Q st = Q .ret st := rfl
/-- A branch, as data. -/
def condT (P : Program) (lo : Nat → List Nat) (g : Option Bool) (x y : Code) (Q : Ex → St → Prop) (st : St) : Prop := andT g fun b => onB b (wpC P lo x Q st) (wpC P lo y Q st)
@[simp] theorem wpC_cond_def (P : Program) (lo : Nat → List Nat) (c : Operand) (x y : Code) (Q : Ex → St → Prop) (st : St) : wpC P lo (.cond c x y) Q st = condT P lo (boolA (st.ev c)) x y Q st := rfl
@[simp] theorem condT_true (P : Program) (lo : Nat → List Nat) (x y : Code) (Q : Ex → St → Prop) (st : St) : condT P lo (some true) x y Q st = wpC P lo x Q st := by simp [condT]
@[simp] theorem condT_false (P : Program) (lo : Nat → List Nat) (x y : Code) (Q : Ex → St → Prop) (st : St) : condT P lo (some false) x y Q st = wpC P lo y Q st := by simp [condT]
theorem condT_dec {c : Prop} [Decidable c] {P : Program} {lo : Nat → List Nat} {x y : Code} {Q : Ex → St → Prop} {st : St} (h1 : c → wpC P lo x Q st) (h2 : ¬ c → wpC P lo y Q st) : condT P lo (some (decide c)) x y Q st := by
  by_cases h : c
  · simpa [h] using h1 h
  · simpa [h] using h2 h
theorem condT_of {b : Bool} {P : Program} {lo : Nat → List Nat} {x y : Code} {Q : Ex → St → Prop} {st : St} (h1 : b = true → wpC P lo x Q st) (h2 : b = false → wpC P lo y Q st) : condT P lo (some b) x y Q st := by
  cases b
  · simpa using h2 rfl
  · simpa using h1 rfl
theorem onB_of {b : Bool} {p q : Prop} (h1 : b = true → p) (h2 : b = false → q) : onB b p q := by
  cases b
  · exact h2 rfl
  · exact h1 rfl
theorem onB_dec {c : Prop} [Decidable c] {p q : Prop} (h1 : c → p) (h2 : ¬ c → q) : onB (decide c) p q :=
  onB_of (fun h => h1 (by simpa using h)) (fun h => h2 (by simpa using h))
def numA : AV → Int
  | .t (.v (.int _ n)) => n
  | _ => 0
@[simp] theorem numA_int (k : IntKind) (n : Int) : numA (.t (.v (.int k n))) = n := rfl

attribute [irreducible] wpC wpL stepT CallL guardT condT beqB

end Cal
