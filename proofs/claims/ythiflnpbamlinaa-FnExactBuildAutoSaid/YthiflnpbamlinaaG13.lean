/- A part of the proof: a calculus of our own over the model's code, and contracts of the program's functions. -/
import Derived.KernelRfl
import Derived.Test.YthiflnpbamlinaaG6
import Derived.Test.YthiflnpbamlinaaG11
/- A calculus of our own: rules for reckoning, over the facts of this program. -/
set_option linter.unusedSimpArgs false
set_option linter.unusedVariables false
namespace Cal
open Go Go.Proofs
theorem mixed : Try.prog.follows .mixedOrders = true := by kernel_rfl
attribute [simp] backs backOne outIds outVals outOne ownIds ownIdss frzVals frzValss resultA resA pair2 pair3 St.toRV St.toRVs noRow
/-- A row of int64. -/
def intRow (l : List Int) : List (List T) := l.map fun x => [.v (.int .i64 x)]
@[simp] theorem intRow_length (l : List Int) : (intRow l).length = l.length := by simp [intRow]
theorem intRow_get {l : List Int} {i : Nat} (h : i < l.length) : (intRow l)[i]? = some [.v (.int .i64 (l.getD i 0))] := by
  simp [intRow, h]
@[simp] theorem intRow_getI (l : List Int) (i : Int) (h0 : 0 ≤ i) (h : i < l.length) : (intRow l)[i.toNat]? = some [.v (.int .i64 (rd l i))] := by
  rw [intRow_get (by omega)]
  rfl
theorem intRow_set (l : List Int) (i : Nat) (x : Int) : (intRow l).set i [.v (.int .i64 x)] = intRow (l.set i x) := by
  simp [intRow, List.map_set]
theorem intRow_append (l l' : List Int) : intRow l ++ intRow l' = intRow (l ++ l') := by simp [intRow]
theorem intRow_rep (n : Nat) (x : Int) : List.replicate n [T.v (.int .i64 x)] = intRow (List.replicate n x) := by simp [intRow]
@[simp] theorem intRow_getN (l : List Int) (i : Nat) (h : i < l.length) : (intRow l)[i]? = some [.v (.int .i64 (rd l i))] := by
  rw [intRow_get h]
  rfl
attribute [simp] intRow_set intRow_append
@[simp] theorem storeA_ptr (st : St) (size : Nat) (x : AV) (id : Id) (i j : Nat) : storeA st size x (.ptr id i j) = if x.cells.length = size ∧ x.cells.all AV.one then match st.ob id with
    | some (.var cs) => if i = 0 ∧ j + size ≤ cs.length then some [(id, some (.var (over cs j x.cells)))] else none
    | some (.row sz es) => match es[i]?, st.toTs x.cells with
      | some e, some xs => if j + size ≤ e.length ∧ noRow id x.cells = true then some (st.frzEffs x.cells ++ [(id, some (.row sz (es.set i (overT e j xs))))]) else none
      | _, _ => none
    | some (.big sz es) => match es[i]? with
      | some e => if j + size ≤ e.length then some [(id, some (.big sz (es.set i (over e j x.cells))))] else none
      | none => none
    | _ => none
    else none := rfl
@[simp] theorem overT_one (a b : T) : overT [a] 0 [b] = [b] := rfl
attribute [simp] St.toT St.toTs St.frzEff St.frzEffs window over
@[simp] theorem index_row (e : Nat) (ag : Bool) (b : Nat) (z : List Value) (id : Id) (sz r k : Nat) (n : Int) (h0 : 0 ≤ n) (h1 : n < k) : indexAddrA (some (e, ⟨ag, sz, b, z⟩)) (.row id sz r k) n = some (.ptr id (r + n.toNat) 0) := by
  have : n.toNat < k := by omega
  simp [indexAddrA, h0, this]
theorem make_int (d : Nat) (e : Nat) (n : Int) (h0 : 0 ≤ n) (h1 : n ≤ 1099511627776) : makeA d (some (e, ⟨false, 1, 8, [.int .i64 0]⟩)) (.t (.v (.int .i64 n))) (.t (.v (.int .i64 n))) = some (.row (d, 0) 1 0 n.toNat, [((d, 0), some (.row 1 (intRow (List.replicate n.toNat 0))))]) := by
  have h2 : n.toNat * 8 ≤ lim := by unfold lim; omega
  simp [makeA, TI.fine, plain, h0, h2, ← intRow_rep]
attribute [simp] make_int plain
theorem eq_of_rd {a b : List Int} (h : a.length = b.length) (k : ∀ i : Nat, i < a.length → rd a i = rd b i) : a = b := by
  apply List.ext_getElem?
  intro i
  by_cases hi : i < a.length
  · have e := k i hi
    have h1 := rd_at (xs := a) (i := (i : Int)) (by omega) (by omega)
    have h2 := rd_at (xs := b) (i := (i : Int)) (by omega) (by omega)
    simp only [Int.toNat_natCast] at h1 h2
    rw [h1, h2, e]
  · rw [List.getElem?_eq_none (by omega), List.getElem?_eq_none (by omega)]
theorem rd_set_ne {l : List Int} {i j : Nat} {x : Int} (h : j ≠ i) : rd (l.set i x) j = rd l j := by
  unfold rd
  simp only [Int.toNat_natCast, List.getD_eq_getElem?_getD]
  rw [List.getElem?_set_ne (fun e => h e.symm)]
theorem rd_set_eq {l : List Int} {i : Nat} {x : Int} (h : i < l.length) : rd (l.set i x) i = x := by
  unfold rd
  simp only [Int.toNat_natCast, List.getD_eq_getElem?_getD]
  rw [List.getElem?_set_self h]
  rfl
theorem below_succ {p : Nat → Prop} {k : Nat} (h : ∀ i < k, p i) (hk : p k) : ∀ i < k + 1, p i := fun i hi => by
  rcases Nat.lt_or_ge i k with h1 | h1
  · exact h i h1
  · have : i = k := by omega
    rw [this]; exact hk

theorem callT_fl {P : Program} {f : FuncId} {mute : Bool} {st : St} {vs : List AV} {d : Option Nat} {K : St → Prop} {ags : List Arg} {res : RV} (h : CallsF P f ags res []) (ha : st.args vs ags)
    (hK : K ((st.eff (retOf d res).2).put d (retOf d res).1))
    (hf : res.flat := by first | (simp [RV.flat, RV.flats, T.flat]; done) | ((repeat' first | exact flat_intRow _ | exact flat_boolRow _ | exact flat_byteR _ | exact trivial | constructor | unfold RV.flat | unfold RV.flats); first | done | fail))
    (hm : mutsOf vs ags = [] := by simp [mutsOf]) : callT P f mute st vs d K := callT_flat h hf ha hm hK
attribute [simp] retOf retA retAs
@[simp] theorem sl_ints (l : List Int) : T.sl (intRow l) = ints l := rfl
@[simp] theorem take_intRow (l : List Int) : (intRow l).take l.length = intRow l := by rw [← intRow_length, List.take_length]
theorem flat_intRow (l : List Int) : ∀ e ∈ intRow l, ∀ x ∈ e, T.flat x := by
  intro e he x hx
  obtain ⟨y, _, rfl⟩ := List.mem_map.1 he
  simp at hx
  subst hx
  trivial
@[simp] theorem flat_own (l : List Int) : (RV.own 1 (intRow l)).flat = True := by
  unfold RV.flat
  exact eq_true (flat_intRow l)
end Cal

/- A calculus of our own: more rules for reckoning: appends, slice literals. -/
set_option linter.unusedSimpArgs false
set_option linter.unusedVariables false
namespace Cal
open Go Go.Proofs
def appendR (ob : Option Ob) (d : Nat) (id : Id) (n : Nat) (es : List (List T)) : Option (AV × Eff) :=
  match ob with
  | some (.row sz fs) => if sz = 1 ∧ n = fs.length ∧ (n + es.length) * 8 ≤ lim then some (.row (d, 0) sz 0 (n + es.length), [(id, none), ((d, 0), some (.row sz (fs ++ es)))]) else none
  | _ => none
@[simp] theorem appendA_row (d : Nat) (st : St) (id : Id) (n : Nat) (es : List (List T)) : appendA d st ⟨false, 1, 8, [.int .i64 0]⟩ (.row id 1 0 n) es = appendR (st.ob id) d id n es := rfl
@[simp] theorem appendR_int (l xs : List Int) (d : Nat) (id : Id) (n : Nat) (h : n = l.length) (h2 : n + xs.length ≤ 1000000000) : appendR (some (.row 1 (intRow l))) d id n (intRow xs) = some (.row (d, 0) 1 0 (n + xs.length), [(id, none), ((d, 0), some (.row 1 (intRow (l ++ xs))))]) := by
  have h3 : (l.length + xs.length) * 8 ≤ lim := by unfold lim; omega
  subst h
  simp [appendR, h3]
@[simp] theorem appendR_one (l : List Int) (x : Int) (d : Nat) (id : Id) (n : Nat) (h : n = l.length) (h2 : n ≤ 999999999) : appendR (some (.row 1 (intRow l))) d id n (intRow [x]) = some (.row (d, 0) 1 0 (n + 1), [(id, none), ((d, 0), some (.row 1 (intRow (l ++ [x]))))]) :=
  appendR_int l [x] d id n h (by simp; omega)
@[simp] theorem appendA_nil (d : Nat) (st : St) (x : Int) : appendA d st ⟨false, 1, 8, [.int .i64 0]⟩ (.t (.v (.slice none 0 0))) (intRow [x]) = some (.row (d, 0) 1 0 1, [((d, 0), some (.row 1 (intRow [x])))]) := rfl
@[simp] theorem one_row (x : Int) : [[T.v (.int .i64 x)]] = intRow [x] := rfl
@[simp] theorem elemsA_row (st : St) (size : Nat) (id : Id) (sz i n : Nat) : elemsA st size (.row id sz i n) = if sz = size then match st.ob id with
    | some (.row _ es) | some (.frz _ es) => some (window es i n)
    | _ => none
    else none := rfl
@[simp] theorem take_intRow1 (x : Int) : (intRow [x]).take 1 = intRow [x] := rfl
@[simp] theorem get0 (v : AV) (vs : List AV) : (v :: vs)[0]? = some v := rfl
@[simp] theorem get1 (u v : AV) (vs : List AV) : (u :: v :: vs)[1]? = some v := rfl
@[simp] theorem get2 (u v x : AV) (vs : List AV) : (u :: v :: x :: vs)[2]? = some x := rfl
@[simp high] theorem extract0 (v : AV) (vs : List AV) : extractA (.tup (v :: vs)) 0 = some (v, []) := rfl
@[simp high] theorem extract1 (u v : AV) (vs : List AV) : extractA (.tup (u :: v :: vs)) 1 = some (v, []) := rfl
@[simp high] theorem extract2 (u v x : AV) (vs : List AV) : extractA (.tup (u :: v :: x :: vs)) 2 = some (x, []) := rfl
def isBigO : Option Ob → Bool
  | some (.big ..) => true
  | _ => false
@[simp] theorem isBig_t (st : St) (x : T) : isBig st (.t x) = false := rfl
@[simp] theorem isBig_row (st : St) (id : Id) (sz i n : Nat) : isBig st (.row id sz i n) = isBigO (st.ob id) := by
  cases h : st.ob id with
  | none => simp [isBig, isBigO, h]
  | some o => cases o <;> simp [isBig, isBigO, h]
@[simp] theorem isBigO_row (sz : Nat) (es : List (List T)) : isBigO (some (.row sz es)) = false := rfl
@[simp] theorem isBigO_frz (sz : Nat) (es : List (List T)) : isBigO (some (.frz sz es)) = false := rfl
@[simp] theorem isBigO_big (sz : Nat) (es : List (List AV)) : isBigO (some (.big sz es)) = true := rfl
attribute [simp] appendO litRef AV.ref
/-- The elements of a slice literal, their values given. -/
def litV (st : St) (size : Nat) : Nat → List (Nat × AV) → Option (List (List T) × Eff)
  | _, [] => some ([], [])
  | k, (i, x) :: l => if i = k ∧ x.cells.length = size then
      match st.toTs x.cells, litV st size (k + 1) l with
      | some e, some (es, f) => some (e :: es, st.frzEffs x.cells ++ f)
      | _, _ => none
    else none
@[simp] theorem litA_eq (st : St) (size : Nat) : ∀ (parts : List (Nat × Operand)) (k : Nat), litA st size k parts = litV st size k (parts.map fun p => (p.1, st.ev p.2))
  | [], k => rfl
  | (i, x) :: l, k => by
    unfold litA
    rw [List.map_cons]
    unfold litV
    rw [litA_eq st size l (k + 1)]
    rfl
attribute [simp] litV TI.fine callFrz outEff valsOf mutsOf flatV
@[simp] theorem muted_false (d : Nat) (x : Option (AV × Eff)) : muted false d x = x := by simp [muted]
@[simp] theorem muteB_false (lo : List Nat) (d : Option Nat) : muteB false lo d = false := by simp [muteB]
end Cal

set_option linter.unusedSimpArgs false
namespace Cal
open Go Go.Proofs
set_option maxRecDepth 100000
/-- The code of laws.eqInt64S. -/
def k42 : Code1 :=
 (.seq
 (.region [] false ([]) [
 ⟨some 4,Op.assign (Operand.const (Value.bool false)),none⟩])
 (.seq
 (.seq
 (.region [] false ([]) [
 ⟨some 6,Op.move (Operand.tmp 0),none⟩,
 ⟨some 7,Op.call {callee:=Callee.builtin Builtin.len,args:=#[Operand.tmp 6],argTypes:=#[22]},none⟩,
 ⟨some 8,Op.move (Operand.tmp 1),none⟩,
 ⟨some 9,Op.call {callee:=Callee.builtin Builtin.len,args:=#[Operand.tmp 8],argTypes:=#[22]},none⟩,
 ⟨some 10,Op.binOp BinOp.neq 3 (Operand.tmp 7) (Operand.tmp 9) 3,none⟩])
 (.cond (Operand.tmp 10)
 (.seq
 (.region [] false ([]) [
 ⟨some 4,Op.assign (Operand.const (Value.bool false)),none⟩])
 .ret)
 .skip))
 (.seq
 (.seq
 (.region [] false ([]) [
 ⟨some 5,Op.assign (Operand.const (Value.int IntKind.i64 0)),none⟩])
 (.block 0
 (.loop
 (.seq
 (.seq
 (.region [] false ([]) [
 ⟨some 11,Op.move (Operand.tmp 5),none⟩,
 ⟨some 12,Op.move (Operand.tmp 0),none⟩,
 ⟨some 13,Op.call {callee:=Callee.builtin Builtin.len,args:=#[Operand.tmp 12],argTypes:=#[22]},none⟩,
 ⟨some 14,Op.binOp BinOp.lss 3 (Operand.tmp 11) (Operand.tmp 13) 3,none⟩])
 (.cond (Operand.tmp 14)
 .skip
 (.exit 0)))
 (.seq
 (.block 1
 (.seq
 (.region [] true ([]) [
 ⟨some 17,Op.move (Operand.tmp 0),none⟩,
 ⟨some 18,Op.move (Operand.tmp 5),none⟩,
 ⟨some 19,Op.indexAddr 22 (Operand.tmp 17) (Operand.tmp 18),none⟩,
 ⟨some 20,Op.load 2 (Operand.tmp 19),none⟩,
 ⟨some 21,Op.move (Operand.tmp 1),none⟩,
 ⟨some 22,Op.move (Operand.tmp 5),none⟩,
 ⟨some 23,Op.indexAddr 22 (Operand.tmp 21) (Operand.tmp 22),none⟩,
 ⟨some 24,Op.load 2 (Operand.tmp 23),none⟩,
 ⟨some 25,Op.binOp BinOp.neq 2 (Operand.tmp 20) (Operand.tmp 24) 2,none⟩])
 (.cond (Operand.tmp 25)
 (.seq
 (.region [] false ([]) [
 ⟨some 4,Op.assign (Operand.const (Value.bool false)),none⟩])
 .ret)
 .skip)))
 (.region [] false ([]) [
 ⟨some 15,Op.move (Operand.tmp 5),none⟩,
 ⟨some 16,Op.binOp BinOp.add 3 (Operand.tmp 15) (Operand.const (Value.int IntKind.i64 1)) 3,none⟩,
 ⟨some 5,Op.assign (Operand.tmp 16),none⟩]))))))
 (.seq
 (.region [] false ([]) [
 ⟨some 4,Op.assign (Operand.const (Value.bool true)),none⟩])
 .ret))))
theorem eqI (a b : List Int) (ha : a.length ≤ 1048576) (hb : b.length ≤ 1048576) :
    CallsF Try.prog 42 [.val (ints a), .val (ints b)] (.t (.v (.bool (decide (a = b))))) [] := by
  refine callsF_of_wp1 (fn := Try.f42) (k := k42) (fun _ => []) mixed (by kernel_rfl) rfl (by kernel_rfl) (by kernel_rfl) (by kernel_rfl) rfl (by simp [Try.f42]) (by simp [Arg.like]) ?_
  generalize hst : St.enter [.val (ints a), .val (ints b)] = st0
  have t0 : st0.tm 0 = .t (ints a) := by rw [← hst]; rfl
  have t1 : st0.tm 1 = .t (ints b) := by rw [← hst]; rfl
  clear hst
  unfold k42
  repeat' (first
   | refine wp1_seq fun K hK => ?_
   | refine M_cons fun K hK => ?_
   | (refine hK _ ?_; clear hK K)
   | (refine hX _ ?_; clear hX hY X Y)
   | (refine hY _ ?_; clear hX hY X Y)
   | refine wp1_block ?_
   | refine wp1_region ?_
   | refine wp1_cond fun X Y hX hY => ?_
   | (refine condK_of (fun c => ?_) (fun c => ?_) <;> (try simp [-List.length_eq_zero_iff] at c))
   | simp (maxSteps := 4000000) (disch := omega) [t0, t1])
  · have : ¬ a = b := fun e => c (by rw [e])
    simp [Back, this]
  have hJ : a = b → ∀ s, K s := by
    rintro rfl s
    repeat' (first
     | refine wp1_seq fun K hK => ?_
     | refine M_cons fun K hK => ?_
     | (refine hK _ ?_; clear hK K)
     | refine wp1_region ?_
     | simp (maxSteps := 4000000) (disch := omega) [])
    all_goals try (simp [Back]; done)
  clear hK
  refine wp1_loop (fun n s => ∃ k : Nat, s.tm 0 = .t (ints a) ∧ s.tm 1 = .t (ints b) ∧ s.tm 5 = .t (.v (.int .i64 k)) ∧ k ≤ a.length ∧ n = a.length - k ∧ ∀ i < k, rd a i = rd b i) a.length ?_ ?_
  · exact ⟨0, by simp [t0, t1]⟩
  · rintro n s ⟨k, s0, s1, s5, hk, rfl, heq⟩ K' hK'
    repeat' (first
     | refine wp1_seq fun K hK => ?_
     | refine M_cons fun K hK => ?_
     | (refine hK _ ?_; clear hK K)
     | (refine hX _ ?_; clear hX hY X Y)
     | (refine hY _ ?_; clear hX hY X Y)
     | refine wp1_block ?_
     | refine wp1_region ?_
     | refine wp1_cond fun X Y hX hY => ?_
     | (refine condK_of (fun c => ?_) (fun c => ?_) <;> (try simp [-List.length_eq_zero_iff] at c))
     | simp (maxSteps := 4000000) (disch := omega) [s0, s1, s5])
    · have : ¬ a = b := fun e => c (by rw [e])
      simp [Back, this]
    · refine hK' (a.length - (k + 1)) _ (by omega) ⟨k + 1, ?_⟩
      simp [s0, s1, s5]
      exact ⟨by omega, below_succ heq c⟩
    · exact hJ (eq_of_rd (by omega) fun i hi => heq i (by omega)) _
structure Gr where
  edgeOf : List Int
  stateOf : List Int
  first : List Int
  to : List Int
  cost : List Int
  start : List Int
  weight : List Int
def inR (x : Int) : Prop := 0 ≤ x ∧ x ≤ 1048576
noncomputable instance (x : Int) : Decidable (inR x) := Classical.propDecidable _

/-- A vertex is right. -/
def VOK (g : Gr) (i : Nat) : Prop := 0 ≤ rd g.edgeOf i ∧ rd g.edgeOf i < g.start.length ∧ 0 ≤ rd g.stateOf i ∧ rd g.stateOf i < 2000 ∧
  (0 < i → rd g.edgeOf ((i : Int) - 1) < rd g.edgeOf i ∨ (rd g.edgeOf ((i : Int) - 1) = rd g.edgeOf i ∧ rd g.stateOf ((i : Int) - 1) < rd g.stateOf i))

/-- A start is right. -/
def SOK (g : Gr) (i : Nat) : Prop := 0 ≤ rd g.start i ∧ rd g.start i < g.edgeOf.length ∧ rd g.edgeOf (rd g.start i) = i
/-- An arc is right. -/
def TOK (g : Gr) (k : Nat) : Prop := 0 ≤ rd g.to k ∧ rd g.to k < g.edgeOf.length ∧ 0 ≤ rd g.cost k ∧ rd g.cost k ≤ 3145728
/-- A vertex's arcs are in order. -/
def AOK (g : Gr) (i : Nat) : Prop := ∀ k : Int, rd g.first i < k → k < rd g.first ((i : Int) + 1) → rd g.edgeOf (rd g.to (k - 1)) < rd g.edgeOf (rd g.to k)

structure VG (g : Gr) : Prop where
  l1 : g.start.length ≤ 4000
  l2 : g.weight.length = g.start.length
  l3 : g.edgeOf.length ≤ 6000
  l4 : g.stateOf.length = g.edgeOf.length
  l5 : g.first.length = g.edgeOf.length + 1
  l6 : g.to.length = g.cost.length
  l7 : g.to.length ≤ 40000
  w : ∀ i < g.weight.length, inR (rd g.weight i)
  v : ∀ i < g.edgeOf.length, VOK g i
  s : ∀ i < g.start.length, SOK g i
  f0 : rd g.first 0 = 0
  fv : rd g.first g.edgeOf.length = g.to.length
  f : ∀ i < g.edgeOf.length, rd g.first i ≤ rd g.first ((i : Int) + 1)
  t : ∀ k < g.to.length, TOK g k
  a : ∀ i < g.edgeOf.length, AOK g i

noncomputable instance (g : Gr) : Decidable (VG g) := Classical.propDecidable _
@[simp] def objG (g : Gr) : Option Ob := some (.var [.t (ints g.edgeOf), .t (ints g.stateOf), .t (ints g.first), .t (ints g.to), .t (ints g.cost), .t (ints g.start), .t (ints g.weight)])
end Cal

/- A calculus of our own: more rules for reckoning: drawn regions, empty rows, nil (Sim3 adds those on graphs). -/
set_option linter.unusedSimpArgs false
set_option linter.unusedVariables false
namespace Cal
open Go Go.Proofs
@[simp] theorem muteB_true (d : Option Nat) : muteB true [] d = true := by simp [muteB]
@[simp] theorem muted_true (d : Nat) (v : AV) (f : Eff) : muted true d (some (v, f)) = if f.all (fun p => p.1.1 == d) = true then some (v, f) else none := rfl
@[simp] theorem appendR_empty (x : Int) (d : Nat) (id : Id) : appendR (some (.row 1 [])) d id 0 (intRow [x]) = some (.row (d, 0) 1 0 1, [(id, none), ((d, 0), some (.row 1 (intRow [x])))]) := rfl
end Cal

set_option linter.unusedSimpArgs false
set_option linter.unusedVariables false
namespace Cal
open Go Go.Proofs
set_option maxRecDepth 100000
/-- k, k + 1, .. -/
def marked (k : Int) (n : Nat) : List Int := (List.range n).map fun (i : Nat) => k + (i : Int)
@[simp] theorem marked_length (k : Int) (n : Nat) : (marked k n).length = n := by simp [marked]
theorem rd_marked {k : Int} {n i : Nat} (h : i < n) : rd (marked k n) i = k + i := by
  unfold rd marked
  simp [List.getD_eq_getElem?_getD, h]
/-- A call that is handed a row to be written, and a value. -/
theorem callT_mrow {P : Program} {f : FuncId} {st : St} {id : Id} {n : Nat} {v2 : AV} {d : Option Nat} {K : St → Prop} {l : List Int} {y : T} {res : RV} {outs : List (Option Arg)} (h : CallsF P f [.mrow 1 (intRow l), .val y] res outs) (ho : st.ob id = some (.row 1 (intRow l))) (hn : n = l.length) (hv : v2 = .t y) (hf : res.flat) (hfl : Arg.flats outs)
    (hK : K ((st.eff (outEff [AV.row id 1 0 n, v2] [.mrow 1 (intRow l), .val y] outs ++ (retOf d res).2)).put d (retOf d res).1)) : callT P f false st [.row id 1 0 n, v2] d K := by
  subst hv
  refine callT_gen true h (fun _ => ⟨hf, hfl⟩) ⟨⟨id, by simp [hn], ho⟩, rfl, trivial⟩ ⟨by simp [mutsOf], by simp [mutsOf, valsOf, noRow]⟩ (fun h => by cases h) ?_
  simpa [callFrz] using hK
/-- The code of laws.markInt64S. -/
def k73 : Code1 :=
 (.seq
 (.region [] false ([]) [
 ⟨some 4,Op.assign (Operand.const (Value.int IntKind.i64 0)),none⟩])
 (.seq
 (.seq
 (.region [] false ([]) [
 ⟨some 5,Op.assign (Operand.const (Value.int IntKind.i64 0)),none⟩])
 (.block 0
 (.loop
 (.seq
 (.seq
 (.region [] false ([]) [
 ⟨some 6,Op.move (Operand.tmp 5),none⟩,
 ⟨some 7,Op.move (Operand.tmp 0),none⟩,
 ⟨some 8,Op.call {callee:=Callee.builtin Builtin.len,args:=#[Operand.tmp 7],argTypes:=#[22]},none⟩,
 ⟨some 9,Op.binOp BinOp.lss 3 (Operand.tmp 6) (Operand.tmp 8) 3,none⟩])
 (.cond (Operand.tmp 9)
 .skip
 (.exit 0)))
 (.seq
 (.block 1
 (.seq
 (.region [] false ([]) [
 ⟨some 12,Op.move (Operand.tmp 0),none⟩,
 ⟨some 13,Op.move (Operand.tmp 5),none⟩,
 ⟨some 14,Op.move (Operand.tmp 1),none⟩,
 ⟨some 15,Op.indexAddr 22 (Operand.tmp 12) (Operand.tmp 13),none⟩,
 ⟨none,Op.store 2 (Operand.tmp 15) (Operand.tmp 14),none⟩])
 (.region [] false ([]) [
 ⟨some 16,Op.move (Operand.tmp 1),none⟩,
 ⟨some 17,Op.binOp BinOp.add 3 (Operand.tmp 16) (Operand.const (Value.int IntKind.i64 1)) 3,none⟩,
 ⟨some 1,Op.assign (Operand.tmp 17),none⟩])))
 (.region [] false ([]) [
 ⟨some 10,Op.move (Operand.tmp 5),none⟩,
 ⟨some 11,Op.binOp BinOp.add 3 (Operand.tmp 10) (Operand.const (Value.int IntKind.i64 1)) 3,none⟩,
 ⟨some 5,Op.assign (Operand.tmp 11),none⟩]))))))
 (.seq
 (.region [] false ([]) [
 ⟨some 18,Op.move (Operand.tmp 1),none⟩,
 ⟨some 4,Op.assign (Operand.tmp 18),none⟩])
 .ret)))
theorem markI (l : List Int) (k : Int) (h0 : 0 ≤ k) (h1 : k ≤ 1000000000) (h2 : l.length ≤ 1048576) :
    CallsF Try.prog 73 [.mrow 1 (intRow l), .val (.v (.int .i64 k))] (.t (.v (.int .i64 (k + l.length)))) [some (.mrow 1 (intRow (marked k l.length)))] := by
  refine callsF_of_wp2 (fn := Try.f73) (k := k73) (fun _ => []) mixed (by kernel_rfl) rfl (by kernel_rfl) (by kernel_rfl) (by kernel_rfl) rfl (by simp [Try.f73]) (by simp [Arg.like]) ?_
  generalize hst : St.enter [.mrow 1 (intRow l), .val (.v (.int .i64 k))] = st0
  have t0 : st0.tm 0 = .row (100000, 0) 1 0 ((intRow l)).length := by rw [← hst]; rfl
  have o0 : st0.ob (100000, 0) = some (.row 1 (intRow l)) := by rw [← hst]; rfl
  have t1 : st0.tm 1 = .t (.v (.int .i64 k)) := by rw [← hst]; rfl
  clear hst
  unfold k73
  simp at t0
  repeat' (first
   | refine wp2_seq fun K hK => ?_
   | refine M_cons fun K hK => ?_
   | (refine hK _ ?_; clear hK K)
   | refine wp2_block ?_
   | refine wp2_region ?_
   | simp (maxSteps := 4000000) (disch := omega) [t0, o0, t1])
  have hJ : ∀ s, s.tm 1 = .t (.v (.int .i64 (k + l.length))) → s.ob (100000, 0) = some (.row 1 (intRow (marked k l.length))) → K s := by
    intro s s1 o
    have hb : base = 100000 := rfl
    repeat' (first
     | refine wp2_seq fun K hK => ?_
     | refine M_cons fun K hK => ?_
     | (refine hK _ ?_; clear hK K)
     | refine wp2_region ?_
     | simp (maxSteps := 4000000) (disch := omega) [s1, o, hb])
    all_goals try (simp [s1, o, hb, Back]; done)
  clear hK
  refine wp2_loop (fun n s => ∃ (j : Nat) (xs : List Int), s.tm 0 = .row (100000, 0) 1 0 l.length ∧ s.ob (100000, 0) = some (.row 1 (intRow xs)) ∧ xs.length = l.length ∧ s.tm 5 = .t (.v (.int .i64 j)) ∧ s.tm 1 = .t (.v (.int .i64 (k + j))) ∧ j ≤ l.length ∧ n = l.length - j ∧ ∀ i < j, rd xs i = k + i) l.length ?_ ?_
  · exact ⟨0, l, by simp [t0, o0, t1]⟩
  · rintro n s ⟨j, xs, s0, o, hx, s5, s1, hj, rfl, hq⟩ K' hK'
    repeat' (first
     | refine wp2_seq fun K hK => ?_
     | refine M_cons fun K hK => ?_
     | (refine hK _ ?_; clear hK K)
     | (refine hX _ ?_; clear hX hY X Y)
     | (refine hY _ ?_; clear hX hY X Y)
     | refine wp2_block ?_
     | refine wp2_region ?_
     | refine wp2_cond fun X Y hX hY => ?_
     | (refine condK_of (fun c => ?_) (fun c => ?_) <;> (try simp [-List.length_eq_zero_iff] at c))
     | simp (maxSteps := 4000000) (disch := omega) [s0, o, s5, s1, hx])
    · refine hK' (l.length - (j + 1)) _ (by omega) ⟨j + 1, xs.set j (k + j), ?_⟩
      simp [s0, hx]
      refine ⟨by omega, by omega, below_succ (p := fun i : Nat => rd (xs.set j (k + j)) i = k + i) (fun i hi => ?_) (rd_set_eq (by omega))⟩
      rw [rd_set_ne (by omega)]
      exact hq i hi
    · have hjl : j = l.length := by omega
      refine hJ _ ?_ ?_
      · simp [s1, hjl]
      · simp [o]
        rw [eq_of_rd (a := xs) (b := marked k l.length) (by simp [hx]) fun i hi => by rw [hq i (by omega), rd_marked (by omega)]]
/-- The code of laws.heldInt64S. -/
def k78 : Code1 :=
 (.seq
 (.region [] false ([]) [
 ⟨some 4,Op.assign (Operand.const (Value.int IntKind.i64 0)),none⟩])
 (.seq
 (.seq
 (.region [] false ([]) [
 ⟨some 5,Op.assign (Operand.const (Value.int IntKind.i64 0)),none⟩])
 (.block 0
 (.loop
 (.seq
 (.seq
 (.region [] false ([]) [
 ⟨some 6,Op.move (Operand.tmp 5),none⟩,
 ⟨some 7,Op.move (Operand.tmp 0),none⟩,
 ⟨some 8,Op.call {callee:=Callee.builtin Builtin.len,args:=#[Operand.tmp 7],argTypes:=#[22]},none⟩,
 ⟨some 9,Op.binOp BinOp.lss 3 (Operand.tmp 6) (Operand.tmp 8) 3,none⟩])
 (.cond (Operand.tmp 9)
 .skip
 (.exit 0)))
 (.seq
 (.block 1
 (.seq
 (.seq
 (.region [] false ([]) [
 ⟨some 12,Op.move (Operand.tmp 0),none⟩,
 ⟨some 13,Op.move (Operand.tmp 5),none⟩,
 ⟨some 14,Op.indexAddr 22 (Operand.tmp 12) (Operand.tmp 13),none⟩,
 ⟨some 15,Op.load 2 (Operand.tmp 14),none⟩,
 ⟨some 16,Op.move (Operand.tmp 1),none⟩,
 ⟨some 17,Op.binOp BinOp.neq 2 (Operand.tmp 15) (Operand.tmp 16) 2,none⟩])
 (.cond (Operand.tmp 17)
 (.seq
 (.region [] false ([]) [
 ⟨some 4,Op.assign (Operand.const (Value.int IntKind.i64 (-1))),none⟩])
 .ret)
 .skip))
 (.region [] false ([]) [
 ⟨some 18,Op.move (Operand.tmp 1),none⟩,
 ⟨some 19,Op.binOp BinOp.add 3 (Operand.tmp 18) (Operand.const (Value.int IntKind.i64 1)) 3,none⟩,
 ⟨some 1,Op.assign (Operand.tmp 19),none⟩])))
 (.region [] false ([]) [
 ⟨some 10,Op.move (Operand.tmp 5),none⟩,
 ⟨some 11,Op.binOp BinOp.add 3 (Operand.tmp 10) (Operand.const (Value.int IntKind.i64 1)) 3,none⟩,
 ⟨some 5,Op.assign (Operand.tmp 11),none⟩]))))))
 (.seq
 (.region [] false ([]) [
 ⟨some 20,Op.move (Operand.tmp 1),none⟩,
 ⟨some 4,Op.assign (Operand.tmp 20),none⟩])
 .ret)))
theorem heldI (n : Nat) (k : Int) (h0 : 0 ≤ k) (h1 : k ≤ 1000000000) (h2 : n ≤ 1048576) :
    CallsF Try.prog 78 [.val (ints (marked k n)), .val (.v (.int .i64 k))] (.t (.v (.int .i64 (k + n)))) [] := by
  refine callsF_of_wp2 (fn := Try.f78) (k := k78) (fun _ => []) mixed (by kernel_rfl) rfl (by kernel_rfl) (by kernel_rfl) (by kernel_rfl) rfl (by simp [Try.f78]) (by simp [Arg.like]) ?_
  generalize hst : St.enter [.val (ints (marked k n)), .val (.v (.int .i64 k))] = st0
  have t0 : st0.tm 0 = .t (ints (marked k n)) := by rw [← hst]; rfl
  have t1 : st0.tm 1 = .t (.v (.int .i64 k)) := by rw [← hst]; rfl
  clear hst
  unfold k78
  have hl : (marked k n).length = n := marked_length k n
  repeat' (first
   | refine wp2_seq fun K hK => ?_
   | refine M_cons fun K hK => ?_
   | (refine hK _ ?_; clear hK K)
   | refine wp2_block ?_
   | refine wp2_region ?_
   | simp (maxSteps := 4000000) (disch := omega) [t0, t1])
  have hJ : ∀ s, s.tm 1 = .t (.v (.int .i64 (k + n))) → K s := by
    intro s s1
    repeat' (first
     | refine wp2_seq fun K hK => ?_
     | refine M_cons fun K hK => ?_
     | (refine hK _ ?_; clear hK K)
     | refine wp2_region ?_
     | simp (maxSteps := 4000000) (disch := omega) [s1])
    all_goals try (simp [s1, Back]; done)
  clear hK
  refine wp2_loop (fun m s => ∃ j : Nat, s.tm 0 = .t (ints (marked k n)) ∧ s.tm 5 = .t (.v (.int .i64 j)) ∧ s.tm 1 = .t (.v (.int .i64 (k + j))) ∧ j ≤ n ∧ m = n - j) n ?_ ?_
  · exact ⟨0, by simp [t0, t1]⟩
  · rintro m s ⟨j, s0, s5, s1, hj, rfl⟩ K' hK'
    have hr : j < n → rd (marked k n) j = k + j := fun h => rd_marked h
    repeat' (first
     | refine wp2_seq fun K hK => ?_
     | refine M_cons fun K hK => ?_
     | (refine hK _ ?_; clear hK K)
     | (refine hX _ ?_; clear hX hY X Y)
     | (refine hY _ ?_; clear hX hY X Y)
     | refine wp2_block ?_
     | refine wp2_region ?_
     | refine wp2_cond fun X Y hX hY => ?_
     | (refine condK_of (fun c => ?_) (fun c => ?_) <;> (try simp [-List.length_eq_zero_iff] at c))
     | simp (maxSteps := 4000000) (disch := omega) [s0, s5, s1])
    all_goals first
      | omega
      | (refine hK' (n - (j + 1)) _ (by omega) ⟨j + 1, ?_⟩; simp [s0]; omega)
      | (refine hJ _ ?_; have hjn : j = n := by omega
         simp [s1, hjn])
      | skip
end Cal

set_option linter.unusedSimpArgs false
set_option linter.unusedVariables false
namespace Cal
open Go Go.Proofs
set_option maxRecDepth 100000
/-- The code of laws.szInt64S. -/
def k59 : Code1 :=
 (.seq
 (.region [] false ([]) [
 ⟨some 4,Op.assign (Operand.const (Value.int IntKind.i64 0)),none⟩])
 (.seq
 (.region [] false ([]) [
 ⟨some 5,Op.move (Operand.tmp 1),none⟩,
 ⟨some 6,Op.move (Operand.tmp 0),none⟩,
 ⟨some 7,Op.call {callee:=Callee.builtin Builtin.len,args:=#[Operand.tmp 6],argTypes:=#[22]},none⟩,
 ⟨some 8,Op.binOp BinOp.sub 3 (Operand.tmp 5) (Operand.tmp 7) 3,none⟩,
 ⟨some 1,Op.assign (Operand.tmp 8),none⟩])
 (.seq
 (.seq
 (.region [] false ([]) [
 ⟨some 9,Op.move (Operand.tmp 1),none⟩,
 ⟨some 10,Op.binOp BinOp.lss 3 (Operand.tmp 9) (Operand.const (Value.int IntKind.i64 0)) 3,none⟩])
 (.cond (Operand.tmp 10)
 (.seq
 (.region [] false ([]) [
 ⟨some 4,Op.assign (Operand.const (Value.int IntKind.i64 (-1))),none⟩])
 .ret)
 .skip))
 (.seq
 (.region [] false ([]) [
 ⟨some 11,Op.move (Operand.tmp 1),none⟩,
 ⟨some 4,Op.assign (Operand.tmp 11),none⟩])
 .ret))))
theorem szI_ok (l : List Int) (left : Int) (hl : l.length ≤ left) (h1 : 0 ≤ left) (h2 : left < 1152921504606846976) :
    CallsF Try.prog 59 [.val (ints l), .val (.v (.int .i64 left))] (.t (.v (.int .i64 (left - l.length)))) [] := by
  refine callsF_of_wp1 (fn := Try.f59) (k := k59) (fun _ => []) mixed (by kernel_rfl) rfl (by kernel_rfl) (by kernel_rfl) (by kernel_rfl) rfl (by simp [Try.f59]) (by simp [Arg.like]) ?_
  generalize hst : St.enter [.val (ints l), .val (.v (.int .i64 left))] = st0
  have t0 : st0.tm 0 = .t (ints l) := by rw [← hst]; rfl
  have t1 : st0.tm 1 = .t (.v (.int .i64 left)) := by rw [← hst]; rfl
  clear hst
  unfold k59
  repeat' (first
   | refine wp1_seq fun K hK => ?_
   | refine M_cons fun K hK => ?_
   | (refine hK _ ?_; clear hK K)
   | (refine hX _ ?_; clear hX hY X Y)
   | (refine hY _ ?_; clear hX hY X Y)
   | refine wp1_region ?_
   | refine wp1_cond fun X Y hX hY => ?_
   | (refine condK_of (fun c => ?_) (fun c => ?_) <;> (try simp [-List.length_eq_zero_iff] at c))
   | simp (maxSteps := 4000000) (disch := omega) [t0, t1])
  all_goals try (simp [t0, t1, Back]; done)
  · omega
theorem szI_no (l : List Int) (left : Int) (hl : left < l.length) (h1 : 0 ≤ left) (h2 : l.length ≤ 9223372036854775807) :
    CallsF Try.prog 59 [.val (ints l), .val (.v (.int .i64 left))] (.t (.v (.int .i64 (-1)))) [] := by
  refine callsF_of_wp1 (fn := Try.f59) (k := k59) (fun _ => []) mixed (by kernel_rfl) rfl (by kernel_rfl) (by kernel_rfl) (by kernel_rfl) rfl (by simp [Try.f59]) (by simp [Arg.like]) ?_
  generalize hst : St.enter [.val (ints l), .val (.v (.int .i64 left))] = st0
  have t0 : st0.tm 0 = .t (ints l) := by rw [← hst]; rfl
  have t1 : st0.tm 1 = .t (.v (.int .i64 left)) := by rw [← hst]; rfl
  clear hst
  unfold k59
  repeat' (first
   | refine wp1_seq fun K hK => ?_
   | refine M_cons fun K hK => ?_
   | (refine hK _ ?_; clear hK K)
   | (refine hX _ ?_; clear hX hY X Y)
   | (refine hY _ ?_; clear hX hY X Y)
   | refine wp1_region ?_
   | refine wp1_cond fun X Y hX hY => ?_
   | (refine condK_of (fun c => ?_) (fun c => ?_) <;> (try simp [-List.length_eq_zero_iff] at c))
   | simp (maxSteps := 4000000) (disch := omega) [t0, t1])
  all_goals try (simp [t0, t1, Back]; done)
  · omega
/-- The code of laws.toInt64S. -/
def k39 : Code1 :=
 (.seq
 (.region [] false ([]) [
 ⟨some 2,Op.assign (Operand.const (Value.slice none 0 0)),none⟩])
 (.seq
 (.region [7] false ([]) [
 ⟨some 5,Op.move (Operand.tmp 0),none⟩,
 ⟨some 6,Op.call {callee:=Callee.builtin Builtin.len,args:=#[Operand.tmp 5],argTypes:=#[22]},none⟩,
 ⟨some 7,Op.makeSlice 22 (Operand.tmp 6) (Operand.tmp 6),none⟩,
 ⟨some 3,Op.assign (Operand.tmp 7),none⟩])
 (.seq
 (.seq
 (.region [] false ([]) [
 ⟨some 4,Op.assign (Operand.const (Value.int IntKind.i64 0)),none⟩])
 (.block 0
 (.loop
 (.seq
 (.seq
 (.region [] false ([]) [
 ⟨some 8,Op.move (Operand.tmp 4),none⟩,
 ⟨some 9,Op.move (Operand.tmp 0),none⟩,
 ⟨some 10,Op.call {callee:=Callee.builtin Builtin.len,args:=#[Operand.tmp 9],argTypes:=#[22]},none⟩,
 ⟨some 11,Op.binOp BinOp.lss 3 (Operand.tmp 8) (Operand.tmp 10) 3,none⟩])
 (.cond (Operand.tmp 11)
 .skip
 (.exit 0)))
 (.seq
 (.block 1
 (.region [] false ([]) [
 ⟨some 14,Op.move (Operand.tmp 3),none⟩,
 ⟨some 15,Op.move (Operand.tmp 4),none⟩,
 ⟨some 16,Op.move (Operand.tmp 0),none⟩,
 ⟨some 17,Op.move (Operand.tmp 4),none⟩,
 ⟨some 18,Op.indexAddr 22 (Operand.tmp 16) (Operand.tmp 17),none⟩,
 ⟨some 19,Op.load 2 (Operand.tmp 18),none⟩,
 ⟨some 20,Op.indexAddr 22 (Operand.tmp 14) (Operand.tmp 15),none⟩,
 ⟨none,Op.store 2 (Operand.tmp 20) (Operand.tmp 19),none⟩]))
 (.region [] false ([]) [
 ⟨some 12,Op.move (Operand.tmp 4),none⟩,
 ⟨some 13,Op.binOp BinOp.add 3 (Operand.tmp 12) (Operand.const (Value.int IntKind.i64 1)) 3,none⟩,
 ⟨some 4,Op.assign (Operand.tmp 13),none⟩]))))))
 (.seq
 (.region [] false ([]) [
 ⟨some 21,Op.move (Operand.tmp 3),none⟩,
 ⟨some 2,Op.assign (Operand.tmp 21),none⟩])
 .ret))))
theorem toI (l : List Int) (hl : l.length ≤ 1048576) :
    CallsF Try.prog 39 [.val (ints l)] (.own 1 (intRow l)) [] := by
  refine callsF_of_wp1 (fn := Try.f39) (k := k39) (fun _ => []) mixed (by kernel_rfl) rfl (by kernel_rfl) (by kernel_rfl) (by kernel_rfl) rfl (by simp [Try.f39]) (by simp [Arg.like]) ?_
  generalize hst : St.enter [.val (ints l)] = st0
  have t0 : st0.tm 0 = .t (ints l) := by rw [← hst]; rfl
  clear hst
  unfold k39
  repeat' (first
   | refine wp1_seq fun K hK => ?_
   | refine M_cons fun K hK => ?_
   | (refine hK _ ?_; clear hK K)
   | refine wp1_block ?_
   | refine wp1_region ?_
   | simp (maxSteps := 4000000) (disch := omega) [t0])
  have hJ : ∀ s : St, s.tm 3 = .row (7, 0) 1 0 l.length → s.ob (7, 0) = some (.row 1 (intRow l)) → K s := by
    intro s s3 o
    repeat' (first
     | refine wp1_seq fun K hK => ?_
     | refine M_cons fun K hK => ?_
     | (refine hK _ ?_; clear hK K)
     | refine wp1_region ?_
     | simp (maxSteps := 4000000) (disch := omega) [s3, o])
    all_goals try (simp [s3, o, Back]; done)
  clear hK
  refine wp1_loop (fun n s => ∃ (k : Nat) (xs : List Int), s.tm 0 = .t (ints l) ∧ s.tm 3 = .row (7, 0) 1 0 l.length ∧ s.tm 4 = .t (.v (.int .i64 k)) ∧ s.ob (7, 0) = some (.row 1 (intRow xs)) ∧ xs.length = l.length ∧ k ≤ l.length ∧ n = l.length - k ∧ ∀ i < k, rd xs i = rd l i) l.length ?_ ?_
  · refine ⟨0, List.replicate l.length 0, ?_⟩
    simp [t0]
  · rintro n s ⟨k, xs, s0, s3, s4, o, hc, hk, rfl, heq⟩ K' hK'
    repeat' (first
     | refine wp1_seq fun K hK => ?_
     | refine M_cons fun K hK => ?_
     | (refine hK _ ?_; clear hK K)
     | (refine hX _ ?_; clear hX hY X Y)
     | (refine hY _ ?_; clear hX hY X Y)
     | refine wp1_block ?_
     | refine wp1_region ?_
     | refine wp1_cond fun X Y hX hY => ?_
     | (refine condK_of (fun c => ?_) (fun c => ?_) <;> (try simp [-List.length_eq_zero_iff] at c))
     | simp (maxSteps := 4000000) (disch := omega) [s0, s3, s4, o, hc])
    · refine hK' (l.length - (k + 1)) _ (by omega) ⟨k + 1, xs.set k (rd l k), ?_⟩
      simp [s0, s3, s4, hc]
      exact ⟨by omega, below_succ (p := fun i : Nat => rd (xs.set k (rd l k)) i = rd l i) (fun i hi => by rw [rd_set_ne (by omega)]; exact heq i hi) (rd_set_eq (by omega))⟩
    · refine hJ _ (by simp [s3]) ?_
      simp [o]
      rw [eq_of_rd hc fun i hi => heq i (by omega)]
end Cal
