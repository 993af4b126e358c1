/- A part of the proof: a calculus of our own over the model's code, and contracts of the program's functions. -/
import Derived.KernelRfl
import Derived.Test.YthiflnpbamlinaaG5
import Derived.Test.YthiflnpbamlinaaG10
/- A calculus of our own: rules for reckoning, over the facts of this program. -/
set_option linter.unusedSimpArgs false
set_option linter.unusedVariables false
namespace Cal
open Go Go.Proofs
theorem mixed : Try.prog.follows .mixedOrders = true := by kernel_rfl
attribute [simp] backs backOne outIds outVals outOne ownIds ownIdss frzVals frzValss resultA resA pair2 pair3 St.toRV St.toRVs noRow
/-- A row of int64. -/
def intRow (l : List Int) : List (List T) := l.map fun x => [.v (.int .i64 x)]
@[simp] theorem intRow_length (l : List Int) : (intRow l).length = l.length := by simp [intRow]
theorem intRow_get {l : List Int} {i : Nat} (h : i < l.length) : (intRow l)[i]? = some [.v (.int .i64 (l.getD i 0))] := by
  simp [intRow, h]
@[simp] theorem intRow_getI (l : List Int) (i : Int) (h0 : 0 ≤ i) (h : i < l.length) : (intRow l)[i.toNat]? = some [.v (.int .i64 (rd l i))] := by
  rw [intRow_get (by omega)]
  rfl
theorem intRow_set (l : List Int) (i : Nat) (x : Int) : (intRow l).set i [.v (.int .i64 x)] = intRow (l.set i x) := by
  simp [intRow, List.map_set]
theorem intRow_append (l l' : List Int) : intRow l ++ intRow l' = intRow (l ++ l') := by simp [intRow]
theorem intRow_rep (n : Nat) (x : Int) : List.replicate n [T.v (.int .i64 x)] = intRow (List.replicate n x) := by simp [intRow]
@[simp] theorem intRow_getN (l : List Int) (i : Nat) (h : i < l.length) : (intRow l)[i]? = some [.v (.int .i64 (rd l i))] := by
  rw [intRow_get h]
  rfl
attribute [simp] intRow_set intRow_append
@[simp] theorem storeA_ptr (st : St) (size : Nat) (x : AV) (id : Id) (i j : Nat) : storeA st size x (.ptr id i j) = if x.cells.length = size ∧ x.cells.all AV.one then match st.ob id with
    | some (.var cs) => if i = 0 ∧ j + size ≤ cs.length then some [(id, some (.var (over cs j x.cells)))] else none
    | some (.row sz es) => match es[i]?, st.toTs x.cells with
      | some e, some xs => if j + size ≤ e.length ∧ noRow id x.cells = true then some (st.frzEffs x.cells ++ [(id, some (.row sz (es.set i (overT e j xs))))]) else none
      | _, _ => none
    | some (.big sz es) => match es[i]? with
      | some e => if j + size ≤ e.length then some [(id, some (.big sz (es.set i (over e j x.cells))))] else none
      | none => none
    | _ => none
    else none := rfl
@[simp] theorem overT_one (a b : T) : overT [a] 0 [b] = [b] := rfl
attribute [simp] St.toT St.toTs St.frzEff St.frzEffs window over
@[simp] theorem index_row (e : Nat) (ag : Bool) (b : Nat) (z : List Value) (id : Id) (sz r k : Nat) (n : Int) (h0 : 0 ≤ n) (h1 : n < k) : indexAddrA (some (e, ⟨ag, sz, b, z⟩)) (.row id sz r k) n = some (.ptr id (r + n.toNat) 0) := by
  have : n.toNat < k := by omega
  simp [indexAddrA, h0, this]
theorem make_int (d : Nat) (e : Nat) (n : Int) (h0 : 0 ≤ n) (h1 : n ≤ 1099511627776) : makeA d (some (e, ⟨false, 1, 8, [.int .i64 0]⟩)) (.t (.v (.int .i64 n))) (.t (.v (.int .i64 n))) = some (.row (d, 0) 1 0 n.toNat, [((d, 0), some (.row 1 (intRow (List.replicate n.toNat 0))))]) := by
  have h2 : n.toNat * 8 ≤ lim := by unfold lim; omega
  simp [makeA, TI.fine, plain, h0, h2, ← intRow_rep]
attribute [simp] make_int plain
theorem eq_of_rd {a b : List Int} (h : a.length = b.length) (k : ∀ i : Nat, i < a.length → rd a i = rd b i) : a = b := by
  apply List.ext_getElem?
  intro i
  by_cases hi : i < a.length
  · have e := k i hi
    have h1 := rd_at (xs := a) (i := (i : Int)) (by omega) (by omega)
    have h2 := rd_at (xs := b) (i := (i : Int)) (by omega) (by omega)
    simp only [Int.toNat_natCast] at h1 h2
    rw [h1, h2, e]
  · rw [List.getElem?_eq_none (by omega), List.getElem?_eq_none (by omega)]
theorem rd_set_ne {l : List Int} {i j : Nat} {x : Int} (h : j ≠ i) : rd (l.set i x) j = rd l j := by
  unfold rd
  simp only [Int.toNat_natCast, List.getD_eq_getElem?_getD]
  rw [List.getElem?_set_ne (fun e => h e.symm)]
theorem rd_set_eq {l : List Int} {i : Nat} {x : Int} (h : i < l.length) : rd (l.set i x) i = x := by
  unfold rd
  simp only [Int.toNat_natCast, List.getD_eq_getElem?_getD]
  rw [List.getElem?_set_self h]
  rfl
theorem below_succ {p : Nat → Prop} {k : Nat} (h : ∀ i < k, p i) (hk : p k) : ∀ i < k + 1, p i := fun i hi => by
  rcases Nat.lt_or_ge i k with h1 | h1
  · exact h i h1
  · have : i = k := by omega
    rw [this]; exact hk

theorem callT_fl {P : Program} {f : FuncId} {mute : Bool} {st : St} {vs : List AV} {d : Option Nat} {K : St → Prop} {ags : List Arg} {res : RV} (h : CallsF P f ags res []) (ha : st.args vs ags)
    (hK : K ((st.eff (retOf d res).2).put d (retOf d res).1))
    (hf : res.flat := by first | (simp [RV.flat, RV.flats, T.flat]; done) | ((repeat' first | exact flat_intRow _ | exact flat_boolRow _ | exact flat_byteR _ | exact trivial | constructor | unfold RV.flat | unfold RV.flats); first | done | fail))
    (hm : mutsOf vs ags = [] := by simp [mutsOf]) : callT P f mute st vs d K := callT_flat h hf ha hm hK
attribute [simp] retOf retA retAs
@[simp] theorem sl_ints (l : List Int) : T.sl (intRow l) = ints l := rfl
@[simp] theorem take_intRow (l : List Int) : (intRow l).take l.length = intRow l := by rw [← intRow_length, List.take_length]
theorem flat_intRow (l : List Int) : ∀ e ∈ intRow l, ∀ x ∈ e, T.flat x := by
  intro e he x hx
  obtain ⟨y, _, rfl⟩ := List.mem_map.1 he
  simp at hx
  subst hx
  trivial
@[simp] theorem flat_own (l : List Int) : (RV.own 1 (intRow l)).flat = True := by
  unfold RV.flat
  exact eq_true (flat_intRow l)
end Cal

/- A calculus of our own: more rules for reckoning: appends, slice literals. -/
set_option linter.unusedSimpArgs false
set_option linter.unusedVariables false
namespace Cal
open Go Go.Proofs
def appendR (ob : Option Ob) (d : Nat) (id : Id) (n : Nat) (es : List (List T)) : Option (AV × Eff) :=
  match ob with
  | some (.row sz fs) => if sz = 1 ∧ n = fs.length ∧ (n + es.length) * 8 ≤ lim then some (.row (d, 0) sz 0 (n + es.length), [(id, none), ((d, 0), some (.row sz (fs ++ es)))]) else none
  | _ => none
@[simp] theorem appendA_row (d : Nat) (st : St) (id : Id) (n : Nat) (es : List (List T)) : appendA d st ⟨false, 1, 8, [.int .i64 0]⟩ (.row id 1 0 n) es = appendR (st.ob id) d id n es := rfl
@[simp] theorem appendR_int (l xs : List Int) (d : Nat) (id : Id) (n : Nat) (h : n = l.length) (h2 : n + xs.length ≤ 1000000000) : appendR (some (.row 1 (intRow l))) d id n (intRow xs) = some (.row (d, 0) 1 0 (n + xs.length), [(id, none), ((d, 0), some (.row 1 (intRow (l ++ xs))))]) := by
  have h3 : (l.length + xs.length) * 8 ≤ lim := by unfold lim; omega
  subst h
  simp [appendR, h3]
@[simp] theorem appendR_one (l : List Int) (x : Int) (d : Nat) (id : Id) (n : Nat) (h : n = l.length) (h2 : n ≤ 999999999) : appendR (some (.row 1 (intRow l))) d id n (intRow [x]) = some (.row (d, 0) 1 0 (n + 1), [(id, none), ((d, 0), some (.row 1 (intRow (l ++ [x]))))]) :=
  appendR_int l [x] d id n h (by simp; omega)
@[simp] theorem appendA_nil (d : Nat) (st : St) (x : Int) : appendA d st ⟨false, 1, 8, [.int .i64 0]⟩ (.t (.v (.slice none 0 0))) (intRow [x]) = some (.row (d, 0) 1 0 1, [((d, 0), some (.row 1 (intRow [x])))]) := rfl
@[simp] theorem one_row (x : Int) : [[T.v (.int .i64 x)]] = intRow [x] := rfl
@[simp] theorem elemsA_row (st : St) (size : Nat) (id : Id) (sz i n : Nat) : elemsA st size (.row id sz i n) = if sz = size then match st.ob id with
    | some (.row _ es) | some (.frz _ es) => some (window es i n)
    | _ => none
    else none := rfl
@[simp] theorem take_intRow1 (x : Int) : (intRow [x]).take 1 = intRow [x] := rfl
@[simp] theorem get0 (v : AV) (vs : List AV) : (v :: vs)[0]? = some v := rfl
@[simp] theorem get1 (u v : AV) (vs : List AV) : (u :: v :: vs)[1]? = some v := rfl
@[simp] theorem get2 (u v x : AV) (vs : List AV) : (u :: v :: x :: vs)[2]? = some x := rfl
@[simp high] theorem extract0 (v : AV) (vs : List AV) : extractA (.tup (v :: vs)) 0 = some (v, []) := rfl
@[simp high] theorem extract1 (u v : AV) (vs : List AV) : extractA (.tup (u :: v :: vs)) 1 = some (v, []) := rfl
@[simp high] theorem extract2 (u v x : AV) (vs : List AV) : extractA (.tup (u :: v :: x :: vs)) 2 = some (x, []) := rfl
def isBigO : Option Ob → Bool
  | some (.big ..) => true
  | _ => false
@[simp] theorem isBig_t (st : St) (x : T) : isBig st (.t x) = false := rfl
@[simp] theorem isBig_row (st : St) (id : Id) (sz i n : Nat) : isBig st (.row id sz i n) = isBigO (st.ob id) := by
  cases h : st.ob id with
  | none => simp [isBig, isBigO, h]
  | some o => cases o <;> simp [isBig, isBigO, h]
@[simp] theorem isBigO_row (sz : Nat) (es : List (List T)) : isBigO (some (.row sz es)) = false := rfl
@[simp] theorem isBigO_frz (sz : Nat) (es : List (List T)) : isBigO (some (.frz sz es)) = false := rfl
@[simp] theorem isBigO_big (sz : Nat) (es : List (List AV)) : isBigO (some (.big sz es)) = true := rfl
attribute [simp] appendO litRef AV.ref
/-- The elements of a slice literal, their values given. -/
def litV (st : St) (size : Nat) : Nat → List (Nat × AV) → Option (List (List T) × Eff)
  | _, [] => some ([], [])
  | k, (i, x) :: l => if i = k ∧ x.cells.length = size then
      match st.toTs x.cells, litV st size (k + 1) l with
      | some e, some (es, f) => some (e :: es, st.frzEffs x.cells ++ f)
      | _, _ => none
    else none
@[simp] theorem litA_eq (st : St) (size : Nat) : ∀ (parts : List (Nat × Operand)) (k : Nat), litA st size k parts = litV st size k (parts.map fun p => (p.1, st.ev p.2))
  | [], k => rfl
  | (i, x) :: l, k => by
    unfold litA
    rw [List.map_cons]
    unfold litV
    rw [litA_eq st size l (k + 1)]
    rfl
attribute [simp] litV TI.fine callFrz outEff valsOf mutsOf flatV
@[simp] theorem muted_false (d : Nat) (x : Option (AV × Eff)) : muted false d x = x := by simp [muted]
@[simp] theorem muteB_false (lo : List Nat) (d : Option Nat) : muteB false lo d = false := by simp [muteB]
end Cal

/- A calculus of our own: more rules for reckoning: drawn regions, empty rows, nil (Sim3 adds those on graphs). -/
set_option linter.unusedSimpArgs false
set_option linter.unusedVariables false
namespace Cal
open Go Go.Proofs
@[simp] theorem muteB_true (d : Option Nat) : muteB true [] d = true := by simp [muteB]
@[simp] theorem muted_true (d : Nat) (v : AV) (f : Eff) : muted true d (some (v, f)) = if f.all (fun p => p.1.1 == d) = true then some (v, f) else none := rfl
@[simp] theorem appendR_empty (x : Int) (d : Nat) (id : Id) : appendR (some (.row 1 [])) d id 0 (intRow [x]) = some (.row (d, 0) 1 0 1, [(id, none), ((d, 0), some (.row 1 (intRow [x])))]) := rfl
end Cal

set_option linter.unusedSimpArgs false
namespace Cal
open Go Go.Proofs
set_option maxRecDepth 100000
/-- The code of laws.eqInt64S. -/
def k42 : Code1 :=
 (.seq
 (.region [] false ([]) [
 ⟨some 4,Op.assign (Operand.const (Value.bool false)),none⟩])
 (.seq
 (.seq
 (.region [] false ([]) [
 ⟨some 6,Op.move (Operand.tmp 0),none⟩,
 ⟨some 7,Op.call {callee:=Callee.builtin Builtin.len,args:=#[Operand.tmp 6],argTypes:=#[22]},none⟩,
 ⟨some 8,Op.move (Operand.tmp 1),none⟩,
 ⟨some 9,Op.call {callee:=Callee.builtin Builtin.len,args:=#[Operand.tmp 8],argTypes:=#[22]},none⟩,
 ⟨some 10,Op.binOp BinOp.neq 3 (Operand.tmp 7) (Operand.tmp 9) 3,none⟩])
 (.cond (Operand.tmp 10)
 (.seq
 (.region [] false ([]) [
 ⟨some 4,Op.assign (Operand.const (Value.bool false)),none⟩])
 .ret)
 .skip))
 (.seq
 (.seq
 (.region [] false ([]) [
 ⟨some 5,Op.assign (Operand.const (Value.int IntKind.i64 0)),none⟩])
 (.block 0
 (.loop
 (.seq
 (.seq
 (.region [] false ([]) [
 ⟨some 11,Op.move (Operand.tmp 5),none⟩,
 ⟨some 12,Op.move (Operand.tmp 0),none⟩,
 ⟨some 13,Op.call {callee:=Callee.builtin Builtin.len,args:=#[Operand.tmp 12],argTypes:=#[22]},none⟩,
 ⟨some 14,Op.binOp BinOp.lss 3 (Operand.tmp 11) (Operand.tmp 13) 3,none⟩])
 (.cond (Operand.tmp 14)
 .skip
 (.exit 0)))
 (.seq
 (.block 1
 (.seq
 (.region [] true ([]) [
 ⟨some 17,Op.move (Operand.tmp 0),none⟩,
 ⟨some 18,Op.move (Operand.tmp 5),none⟩,
 ⟨some 19,Op.indexAddr 22 (Operand.tmp 17) (Operand.tmp 18),none⟩,
 ⟨some 20,Op.load 2 (Operand.tmp 19),none⟩,
 ⟨some 21,Op.move (Operand.tmp 1),none⟩,
 ⟨some 22,Op.move (Operand.tmp 5),none⟩,
 ⟨some 23,Op.indexAddr 22 (Operand.tmp 21) (Operand.tmp 22),none⟩,
 ⟨some 24,Op.load 2 (Operand.tmp 23),none⟩,
 ⟨some 25,Op.binOp BinOp.neq 2 (Operand.tmp 20) (Operand.tmp 24) 2,none⟩])
 (.cond (Operand.tmp 25)
 (.seq
 (.region [] false ([]) [
 ⟨some 4,Op.assign (Operand.const (Value.bool false)),none⟩])
 .ret)
 .skip)))
 (.region [] false ([]) [
 ⟨some 15,Op.move (Operand.tmp 5),none⟩,
 ⟨some 16,Op.binOp BinOp.add 3 (Operand.tmp 15) (Operand.const (Value.int IntKind.i64 1)) 3,none⟩,
 ⟨some 5,Op.assign (Operand.tmp 16),none⟩]))))))
 (.seq
 (.region [] false ([]) [
 ⟨some 4,Op.assign (Operand.const (Value.bool true)),none⟩])
 .ret))))
theorem eqI (a b : List Int) (ha : a.length ≤ 1048576) (hb : b.length ≤ 1048576) :
    CallsF Try.prog 42 [.val (ints a), .val (ints b)] (.t (.v (.bool (decide (a = b))))) [] := by
  refine callsF_of_wp1 (fn := Try.f42) (k := k42) (fun _ => []) mixed (by kernel_rfl) rfl (by kernel_rfl) (by kernel_rfl) (by kernel_rfl) rfl (by simp [Try.f42]) (by simp [Arg.like]) ?_
  generalize hst : St.enter [.val (ints a), .val (ints b)] = st0
  have t0 : st0.tm 0 = .t (ints a) := by rw [← hst]; rfl
  have t1 : st0.tm 1 = .t (ints b) := by rw [← hst]; rfl
  clear hst
  unfold k42
  repeat' (first
   | refine wp1_seq fun K hK => ?_
   | refine M_cons fun K hK => ?_
   | (refine hK _ ?_; clear hK K)
   | (refine hX _ ?_; clear hX hY X Y)
   | (refine hY _ ?_; clear hX hY X Y)
   | refine wp1_block ?_
   | refine wp1_region ?_
   | refine wp1_cond fun X Y hX hY => ?_
   | (refine condK_of (fun c => ?_) (fun c => ?_) <;> (try simp [-List.length_eq_zero_iff] at c))
   | simp (maxSteps := 4000000) (disch := omega) [t0, t1])
  · have : ¬ a = b := fun e => c (by rw [e])
    simp [Back, this]
  have hJ : a = b → ∀ s, K s := by
    rintro rfl s
    repeat' (first
     | refine wp1_seq fun K hK => ?_
     | refine M_cons fun K hK => ?_
     | (refine hK _ ?_; clear hK K)
     | refine wp1_region ?_
     | simp (maxSteps := 4000000) (disch := omega) [])
    all_goals try (simp [Back]; done)
  clear hK
  refine wp1_loop (fun n s => ∃ k : Nat, s.tm 0 = .t (ints a) ∧ s.tm 1 = .t (ints b) ∧ s.tm 5 = .t (.v (.int .i64 k)) ∧ k ≤ a.length ∧ n = a.length - k ∧ ∀ i < k, rd a i = rd b i) a.length ?_ ?_
  · exact ⟨0, by simp [t0, t1]⟩
  · rintro n s ⟨k, s0, s1, s5, hk, rfl, heq⟩ K' hK'
    repeat' (first
     | refine wp1_seq fun K hK => ?_
     | refine M_cons fun K hK => ?_
     | (refine hK _ ?_; clear hK K)
     | (refine hX _ ?_; clear hX hY X Y)
     | (refine hY _ ?_; clear hX hY X Y)
     | refine wp1_block ?_
     | refine wp1_region ?_
     | refine wp1_cond fun X Y hX hY => ?_
     | (refine condK_of (fun c => ?_) (fun c => ?_) <;> (try simp [-List.length_eq_zero_iff] at c))
     | simp (maxSteps := 4000000) (disch := omega) [s0, s1, s5])
    · have : ¬ a = b := fun e => c (by rw [e])
      simp [Back, this]
    · refine hK' (a.length - (k + 1)) _ (by omega) ⟨k + 1, ?_⟩
      simp [s0, s1, s5]
      exact ⟨by omega, below_succ heq c⟩
    · exact hJ (eq_of_rd (by omega) fun i hi => heq i (by omega)) _
structure Gr where
  edgeOf : List Int
  stateOf : List Int
  first : List Int
  to : List Int
  cost : List Int
  start : List Int
  weight : List Int
def encG (g : Gr) : List T := [ints g.edgeOf, ints g.stateOf, ints g.first, ints g.to, ints g.cost, ints g.start, ints g.weight]
def inR (x : Int) : Prop := 0 ≤ x ∧ x ≤ 1048576
noncomputable instance (x : Int) : Decidable (inR x) := Classical.propDecidable _

/-- A vertex is right. -/
def VOK (g : Gr) (i : Nat) : Prop := 0 ≤ rd g.edgeOf i ∧ rd g.edgeOf i < g.start.length ∧ 0 ≤ rd g.stateOf i ∧ rd g.stateOf i < 2000 ∧
  (0 < i → rd g.edgeOf ((i : Int) - 1) < rd g.edgeOf i ∨ (rd g.edgeOf ((i : Int) - 1) = rd g.edgeOf i ∧ rd g.stateOf ((i : Int) - 1) < rd g.stateOf i))

/-- A start is right. -/
def SOK (g : Gr) (i : Nat) : Prop := 0 ≤ rd g.start i ∧ rd g.start i < g.edgeOf.length ∧ rd g.edgeOf (rd g.start i) = i
/-- An arc is right. -/
def TOK (g : Gr) (k : Nat) : Prop := 0 ≤ rd g.to k ∧ rd g.to k < g.edgeOf.length ∧ 0 ≤ rd g.cost k ∧ rd g.cost k ≤ 3145728
/-- A vertex's arcs are in order. -/
def AOK (g : Gr) (i : Nat) : Prop := ∀ k : Int, rd g.first i < k → k < rd g.first ((i : Int) + 1) → rd g.edgeOf (rd g.to (k - 1)) < rd g.edgeOf (rd g.to k)

structure VG (g : Gr) : Prop where
  l1 : g.start.length ≤ 4000
  l2 : g.weight.length = g.start.length
  l3 : g.edgeOf.length ≤ 6000
  l4 : g.stateOf.length = g.edgeOf.length
  l5 : g.first.length = g.edgeOf.length + 1
  l6 : g.to.length = g.cost.length
  l7 : g.to.length ≤ 40000
  w : ∀ i < g.weight.length, inR (rd g.weight i)
  v : ∀ i < g.edgeOf.length, VOK g i
  s : ∀ i < g.start.length, SOK g i
  f0 : rd g.first 0 = 0
  fv : rd g.first g.edgeOf.length = g.to.length
  f : ∀ i < g.edgeOf.length, rd g.first i ≤ rd g.first ((i : Int) + 1)
  t : ∀ k < g.to.length, TOK g k
  a : ∀ i < g.edgeOf.length, AOK g i

noncomputable instance (g : Gr) : Decidable (VG g) := Classical.propDecidable _
@[simp] def objG (g : Gr) : Option Ob := some (.var [.t (ints g.edgeOf), .t (ints g.stateOf), .t (ints g.first), .t (ints g.to), .t (ints g.cost), .t (ints g.start), .t (ints g.weight)])
def GI (g : Gr) (s : St) : Prop := s.tm 1 = .ptr (1, 0) 0 0 ∧ s.ob (1, 0) = objG g ∧ s.tm 3 = .t (.v (.int .i64 g.start.length)) ∧ s.tm 4 = .t (.v (.int .i64 g.edgeOf.length))
theorem firsts {g : Gr} (f0 : rd g.first 0 = 0) (fv : rd g.first g.edgeOf.length = g.to.length) (hf : ∀ i : Nat, i < g.edgeOf.length → rd g.first i ≤ rd g.first ((i : Int) + 1)) : ∀ k : Nat, k ≤ g.edgeOf.length → 0 ≤ rd g.first k ∧ rd g.first k ≤ g.to.length := by
  intro k hk
  have up : ∀ k : Nat, k ≤ g.edgeOf.length → 0 ≤ rd g.first k := by
    intro k
    induction k with
    | zero => intro _; simp [f0]
    | succ k ih =>
      intro h
      have h1 := ih (by omega)
      have h2 := hf k (by omega)
      push_cast
      omega
  have down : ∀ m k : Nat, k + m = g.edgeOf.length → rd g.first k ≤ g.to.length := by
    intro m
    induction m with
    | zero => intro k h; rw [show k = g.edgeOf.length by omega, fv]; omega
    | succ m ih =>
      intro k h
      have h1 := ih (k + 1) (by omega)
      have h2 := hf k (by omega)
      push_cast at h1
      omega
  exact ⟨up k hk, down (g.edgeOf.length - k) k (by omega)⟩
/-- The code of impl.inRange. -/
def k139 : Code1 :=
 (.seq
 (.region [] false ([]) [
 ⟨some 2,Op.assign (Operand.const (Value.bool false)),none⟩])
 (.seq
 (.region [] false ([]) [
 ⟨some 3,Op.move (Operand.tmp 0),none⟩,
 ⟨some 4,Op.binOp BinOp.geq 2 (Operand.tmp 3) (Operand.const (Value.int IntKind.i64 0)) 2,none⟩,
 ⟨some 5,Op.move (Operand.tmp 4),none⟩,
 ⟨some 6,Op.move (Operand.tmp 0),some (5,true)⟩,
 ⟨some 7,Op.binOp BinOp.leq 2 (Operand.tmp 6) (Operand.const (Value.int IntKind.i64 1048576)) 2,some (5,true)⟩,
 ⟨some 8,Op.pick (Operand.tmp 5) (Operand.tmp 7) (Operand.const (Value.bool false)),none⟩,
 ⟨some 2,Op.assign (Operand.tmp 8),none⟩])
 .ret))
theorem inRange_c (x : Int) : CallsF Try.prog 139 [.val (.v (.int .i64 x))] (.t (.v (.bool (decide (inR x))))) [] := by
  refine callsF_of_wp1 (fn := Try.f139) (k := k139) (fun _ => []) mixed (by kernel_rfl) rfl (by kernel_rfl) (by kernel_rfl) (by kernel_rfl) rfl (by simp [Try.f139]) (by simp [Arg.like]) ?_
  generalize hst : St.enter [.val (.v (.int .i64 x))] = st0
  have t0 : st0.tm 0 = .t (.v (.int .i64 x)) := by rw [← hst]; rfl
  clear hst
  unfold k139
  repeat' (first
   | refine wp1_seq fun K hK => ?_
   | refine M_cons fun K hK => ?_
   | (refine hK _ ?_; clear hK K)
   | refine wp1_region ?_
   | (refine guard1_or (fun c => ?_) (fun c => ?_) <;> (have cc := c) <;> (try simp [-List.length_eq_zero_iff] at cc) <;> (try simp (disch := omega) [t0, c]))
   | simp (maxSteps := 4000000) (disch := omega) [t0])
  · by_cases h : x ≤ 1048576
    · have : inR x := ⟨cc, h⟩
      simp [Back, this, h]
    · have : ¬ inR x := fun hh => h hh.2
      simp [Back, this, h]
  · have : ¬ inR x := fun hh => by have := hh.1; omega
    simp [Back, this]
/-- The code of spec.l1In. -/
def k125 : Code1 :=
 (.seq
 (.region [] false ([]) [
 ⟨some 2,Op.assign (Operand.const (Value.bool false)),none⟩])
 (.seq
 (.region [] false ([]) [
 ⟨some 3,Op.move (Operand.tmp 0),none⟩,
 ⟨some 4,Op.binOp BinOp.geq 2 (Operand.tmp 3) (Operand.const (Value.int IntKind.i64 0)) 2,none⟩,
 ⟨some 5,Op.move (Operand.tmp 4),none⟩,
 ⟨some 6,Op.move (Operand.tmp 0),some (5,true)⟩,
 ⟨some 7,Op.binOp BinOp.leq 2 (Operand.tmp 6) (Operand.const (Value.int IntKind.i64 1048576)) 2,some (5,true)⟩,
 ⟨some 8,Op.pick (Operand.tmp 5) (Operand.tmp 7) (Operand.const (Value.bool false)),none⟩,
 ⟨some 2,Op.assign (Operand.tmp 8),none⟩])
 .ret))
theorem l1In_c (x : Int) : CallsF Try.prog 125 [.val (.v (.int .i64 x))] (.t (.v (.bool (decide (inR x))))) [] := by
  refine callsF_of_wp1 (fn := Try.f125) (k := k125) (fun _ => []) mixed (by kernel_rfl) rfl (by kernel_rfl) (by kernel_rfl) (by kernel_rfl) rfl (by simp [Try.f125]) (by simp [Arg.like]) ?_
  generalize hst : St.enter [.val (.v (.int .i64 x))] = st0
  have t0 : st0.tm 0 = .t (.v (.int .i64 x)) := by rw [← hst]; rfl
  clear hst
  unfold k125
  repeat' (first
   | refine wp1_seq fun K hK => ?_
   | refine M_cons fun K hK => ?_
   | (refine hK _ ?_; clear hK K)
   | refine wp1_region ?_
   | (refine guard1_or (fun c => ?_) (fun c => ?_) <;> (have cc := c) <;> (try simp [-List.length_eq_zero_iff] at cc) <;> (try simp (disch := omega) [t0, c]))
   | simp (maxSteps := 4000000) (disch := omega) [t0])
  · by_cases h : x ≤ 1048576
    · have : inR x := ⟨cc, h⟩
      simp [Back, this, h]
    · have : ¬ inR x := fun hh => h hh.2
      simp [Back, this, h]
  · have : ¬ inR x := fun hh => by have := hh.1; omega
    simp [Back, this]
end Cal

set_option linter.unusedSimpArgs false
set_option linter.unusedVariables false
namespace Cal
open Go Go.Proofs
set_option maxRecDepth 100000
/-- The code of spec.ValidGraph. -/
def k80 : Code1 :=
 (.seq
 (.region [1] false ([]) [
 ⟨some 1,Op.box 50 (Operand.tmp 0),none⟩,
 ⟨some 2,Op.assign (Operand.const (Value.bool false)),none⟩])
 (.seq
 (.region [] false ([]) [
 ⟨some 12,Op.fieldAddr 50 (Operand.tmp 1) 5,none⟩,
 ⟨some 13,Op.load 22 (Operand.tmp 12),none⟩,
 ⟨some 14,Op.call {callee:=Callee.builtin Builtin.len,args:=#[Operand.tmp 13],argTypes:=#[22]},none⟩,
 ⟨some 3,Op.assign (Operand.tmp 14),none⟩])
 (.seq
 (.region [] false ([]) [
 ⟨some 15,Op.fieldAddr 50 (Operand.tmp 1) 0,none⟩,
 ⟨some 16,Op.load 22 (Operand.tmp 15),none⟩,
 ⟨some 17,Op.call {callee:=Callee.builtin Builtin.len,args:=#[Operand.tmp 16],argTypes:=#[22]},none⟩,
 ⟨some 4,Op.assign (Operand.tmp 17),none⟩])
 (.seq
 (.seq
 (.region [] false ([]) [
 ⟨some 18,Op.move (Operand.tmp 3),none⟩,
 ⟨some 19,Op.binOp BinOp.gtr 2 (Operand.tmp 18) (Operand.const (Value.int IntKind.i64 4000)) 2,none⟩,
 ⟨some 20,Op.move (Operand.tmp 19),none⟩,
 ⟨some 21,Op.fieldAddr 50 (Operand.tmp 1) 6,some (20,false)⟩,
 ⟨some 22,Op.load 22 (Operand.tmp 21),some (20,false)⟩,
 ⟨some 23,Op.call {callee:=Callee.builtin Builtin.len,args:=#[Operand.tmp 22],argTypes:=#[22]},some (20,false)⟩,
 ⟨some 24,Op.move (Operand.tmp 3),some (20,false)⟩,
 ⟨some 25,Op.binOp BinOp.neq 2 (Operand.tmp 23) (Operand.tmp 24) 2,some (20,false)⟩,
 ⟨some 26,Op.pick (Operand.tmp 20) (Operand.const (Value.bool true)) (Operand.tmp 25),none⟩,
 ⟨some 27,Op.move (Operand.tmp 26),none⟩,
 ⟨some 28,Op.move (Operand.tmp 4),some (27,false)⟩,
 ⟨some 29,Op.binOp BinOp.gtr 2 (Operand.tmp 28) (Operand.const (Value.int IntKind.i64 6000)) 2,some (27,false)⟩,
 ⟨some 30,Op.pick (Operand.tmp 27) (Operand.const (Value.bool true)) (Operand.tmp 29),none⟩,
 ⟨some 31,Op.move (Operand.tmp 30),none⟩,
 ⟨some 32,Op.fieldAddr 50 (Operand.tmp 1) 1,some (31,false)⟩,
 ⟨some 33,Op.load 22 (Operand.tmp 32),some (31,false)⟩,
 ⟨some 34,Op.call {callee:=Callee.builtin Builtin.len,args:=#[Operand.tmp 33],argTypes:=#[22]},some (31,false)⟩,
 ⟨some 35,Op.move (Operand.tmp 4),some (31,false)⟩,
 ⟨some 36,Op.binOp BinOp.neq 2 (Operand.tmp 34) (Operand.tmp 35) 2,some (31,false)⟩,
 ⟨some 37,Op.pick (Operand.tmp 31) (Operand.const (Value.bool true)) (Operand.tmp 36),none⟩])
 (.cond (Operand.tmp 37)
 (.seq
 (.region [] false ([]) [
 ⟨some 2,Op.assign (Operand.const (Value.bool false)),none⟩])
 .ret)
 .skip))
 (.seq
 (.seq
 (.region [] false ([]) [
 ⟨some 5,Op.assign (Operand.const (Value.int IntKind.i64 0)),none⟩])
 (.block 0
 (.loop
 (.seq
 (.seq
 (.region [] false ([]) [
 ⟨some 38,Op.move (Operand.tmp 5),none⟩,
 ⟨some 39,Op.fieldAddr 50 (Operand.tmp 1) 6,none⟩,
 ⟨some 40,Op.load 22 (Operand.tmp 39),none⟩,
 ⟨some 41,Op.call {callee:=Callee.builtin Builtin.len,args:=#[Operand.tmp 40],argTypes:=#[22]},none⟩,
 ⟨some 42,Op.binOp BinOp.lss 3 (Operand.tmp 38) (Operand.tmp 41) 3,none⟩])
 (.cond (Operand.tmp 42)
 .skip
 (.exit 0)))
 (.seq
 (.block 1
 (.seq
 (.region [50] false ([]) [
 ⟨some 45,Op.fieldAddr 50 (Operand.tmp 1) 6,none⟩,
 ⟨some 46,Op.load 22 (Operand.tmp 45),none⟩,
 ⟨some 47,Op.move (Operand.tmp 5),none⟩,
 ⟨some 48,Op.indexAddr 22 (Operand.tmp 46) (Operand.tmp 47),none⟩,
 ⟨some 49,Op.load 2 (Operand.tmp 48),none⟩,
 ⟨some 50,Op.call {callee:=Callee.value (Operand.func 125),args:=#[Operand.tmp 49],argTypes:=#[2]},none⟩,
 ⟨some 51,Op.unOp UnOp.not 4 (Operand.tmp 50),none⟩])
 (.cond (Operand.tmp 51)
 (.seq
 (.region [] false ([]) [
 ⟨some 2,Op.assign (Operand.const (Value.bool false)),none⟩])
 .ret)
 .skip)))
 (.region [] false ([]) [
 ⟨some 43,Op.move (Operand.tmp 5),none⟩,
 ⟨some 44,Op.binOp BinOp.add 3 (Operand.tmp 43) (Operand.const (Value.int IntKind.i64 1)) 3,none⟩,
 ⟨some 5,Op.assign (Operand.tmp 44),none⟩]))))))
 (.seq
 (.seq
 (.region [] false ([]) [
 ⟨some 6,Op.assign (Operand.const (Value.int IntKind.i64 0)),none⟩])
 (.block 2
 (.loop
 (.seq
 (.seq
 (.region [] false ([]) [
 ⟨some 52,Op.move (Operand.tmp 6),none⟩,
 ⟨some 53,Op.fieldAddr 50 (Operand.tmp 1) 0,none⟩,
 ⟨some 54,Op.load 22 (Operand.tmp 53),none⟩,
 ⟨some 55,Op.call {callee:=Callee.builtin Builtin.len,args:=#[Operand.tmp 54],argTypes:=#[22]},none⟩,
 ⟨some 56,Op.binOp BinOp.lss 3 (Operand.tmp 52) (Operand.tmp 55) 3,none⟩])
 (.cond (Operand.tmp 56)
 .skip
 (.exit 2)))
 (.seq
 (.block 3
 (.seq
 (.seq
 (.region [] false ([]) [
 ⟨some 59,Op.fieldAddr 50 (Operand.tmp 1) 0,none⟩,
 ⟨some 60,Op.load 22 (Operand.tmp 59),none⟩,
 ⟨some 61,Op.move (Operand.tmp 6),none⟩,
 ⟨some 62,Op.indexAddr 22 (Operand.tmp 60) (Operand.tmp 61),none⟩,
 ⟨some 63,Op.load 2 (Operand.tmp 62),none⟩,
 ⟨some 64,Op.binOp BinOp.lss 2 (Operand.tmp 63) (Operand.const (Value.int IntKind.i64 0)) 2,none⟩,
 ⟨some 65,Op.move (Operand.tmp 64),none⟩,
 ⟨some 66,Op.fieldAddr 50 (Operand.tmp 1) 0,some (65,false)⟩,
 ⟨some 67,Op.load 22 (Operand.tmp 66),some (65,false)⟩,
 ⟨some 68,Op.move (Operand.tmp 6),some (65,false)⟩,
 ⟨some 69,Op.indexAddr 22 (Operand.tmp 67) (Operand.tmp 68),some (65,false)⟩,
 ⟨some 70,Op.load 2 (Operand.tmp 69),some (65,false)⟩,
 ⟨some 71,Op.move (Operand.tmp 3),some (65,false)⟩,
 ⟨some 72,Op.binOp BinOp.geq 2 (Operand.tmp 70) (Operand.tmp 71) 2,some (65,false)⟩,
 ⟨some 73,Op.pick (Operand.tmp 65) (Operand.const (Value.bool true)) (Operand.tmp 72),none⟩,
 ⟨some 74,Op.move (Operand.tmp 73),none⟩,
 ⟨some 75,Op.fieldAddr 50 (Operand.tmp 1) 1,some (74,false)⟩,
 ⟨some 76,Op.load 22 (Operand.tmp 75),some (74,false)⟩,
 ⟨some 77,Op.move (Operand.tmp 6),some (74,false)⟩,
 ⟨some 78,Op.indexAddr 22 (Operand.tmp 76) (Operand.tmp 77),some (74,false)⟩,
 ⟨some 79,Op.load 2 (Operand.tmp 78),some (74,false)⟩,
 ⟨some 80,Op.binOp BinOp.lss 2 (Operand.tmp 79) (Operand.const (Value.int IntKind.i64 0)) 2,some (74,false)⟩,
 ⟨some 81,Op.pick (Operand.tmp 74) (Operand.const (Value.bool true)) (Operand.tmp 80),none⟩,
 ⟨some 82,Op.move (Operand.tmp 81),none⟩,
 ⟨some 83,Op.fieldAddr 50 (Operand.tmp 1) 1,some (82,false)⟩,
 ⟨some 84,Op.load 22 (Operand.tmp 83),some (82,false)⟩,
 ⟨some 85,Op.move (Operand.tmp 6),some (82,false)⟩,
 ⟨some 86,Op.indexAddr 22 (Operand.tmp 84) (Operand.tmp 85),some (82,false)⟩,
 ⟨some 87,Op.load 2 (Operand.tmp 86),some (82,false)⟩,
 ⟨some 88,Op.binOp BinOp.geq 2 (Operand.tmp 87) (Operand.const (Value.int IntKind.i64 2000)) 2,some (82,false)⟩,
 ⟨some 89,Op.pick (Operand.tmp 82) (Operand.const (Value.bool true)) (Operand.tmp 88),none⟩])
 (.cond (Operand.tmp 89)
 (.seq
 (.region [] false ([]) [
 ⟨some 2,Op.assign (Operand.const (Value.bool false)),none⟩])
 .ret)
 .skip))
 (.seq
 (.region [] true ([]) [
 ⟨some 90,Op.move (Operand.tmp 6),none⟩,
 ⟨some 91,Op.binOp BinOp.gtr 3 (Operand.tmp 90) (Operand.const (Value.int IntKind.i64 0)) 3,none⟩,
 ⟨some 92,Op.move (Operand.tmp 91),none⟩,
 ⟨some 93,Op.fieldAddr 50 (Operand.tmp 1) 0,some (92,true)⟩,
 ⟨some 94,Op.load 22 (Operand.tmp 93),some (92,true)⟩,
 ⟨some 95,Op.move (Operand.tmp 6),some (92,true)⟩,
 ⟨some 96,Op.indexAddr 22 (Operand.tmp 94) (Operand.tmp 95),some (92,true)⟩,
 ⟨some 97,Op.load 2 (Operand.tmp 96),some (92,true)⟩,
 ⟨some 98,Op.fieldAddr 50 (Operand.tmp 1) 0,some (92,true)⟩,
 ⟨some 99,Op.load 22 (Operand.tmp 98),some (92,true)⟩,
 ⟨some 100,Op.move (Operand.tmp 6),some (92,true)⟩,
 ⟨some 101,Op.binOp BinOp.sub 3 (Operand.tmp 100) (Operand.const (Value.int IntKind.i64 1)) 3,some (92,true)⟩,
 ⟨some 102,Op.indexAddr 22 (Operand.tmp 99) (Operand.tmp 101),some (92,true)⟩,
 ⟨some 103,Op.load 2 (Operand.tmp 102),some (92,true)⟩,
 ⟨some 104,Op.binOp BinOp.lss 2 (Operand.tmp 97) (Operand.tmp 103) 2,some (92,true)⟩,
 ⟨some 105,Op.move (Operand.tmp 104),some (92,true)⟩,
 ⟨some 106,Op.fieldAddr 50 (Operand.tmp 1) 0,some (105,false)⟩,
 ⟨some 107,Op.load 22 (Operand.tmp 106),some (105,false)⟩,
 ⟨some 108,Op.move (Operand.tmp 6),some (105,false)⟩,
 ⟨some 109,Op.indexAddr 22 (Operand.tmp 107) (Operand.tmp 108),some (105,false)⟩,
 ⟨some 110,Op.load 2 (Operand.tmp 109),some (105,false)⟩,
 ⟨some 111,Op.fieldAddr 50 (Operand.tmp 1) 0,some (105,false)⟩,
 ⟨some 112,Op.load 22 (Operand.tmp 111),some (105,false)⟩,
 ⟨some 113,Op.move (Operand.tmp 6),some (105,false)⟩,
 ⟨some 114,Op.binOp BinOp.sub 3 (Operand.tmp 113) (Operand.const (Value.int IntKind.i64 1)) 3,some (105,false)⟩,
 ⟨some 115,Op.indexAddr 22 (Operand.tmp 112) (Operand.tmp 114),some (105,false)⟩,
 ⟨some 116,Op.load 2 (Operand.tmp 115),some (105,false)⟩,
 ⟨some 117,Op.binOp BinOp.eql 2 (Operand.tmp 110) (Operand.tmp 116) 2,some (105,false)⟩,
 ⟨some 118,Op.move (Operand.tmp 117),some (105,false)⟩,
 ⟨some 119,Op.fieldAddr 50 (Operand.tmp 1) 1,some (118,true)⟩,
 ⟨some 120,Op.load 22 (Operand.tmp 119),some (118,true)⟩,
 ⟨some 121,Op.move (Operand.tmp 6),some (118,true)⟩,
 ⟨some 122,Op.indexAddr 22 (Operand.tmp 120) (Operand.tmp 121),some (118,true)⟩,
 ⟨some 123,Op.load 2 (Operand.tmp 122),some (118,true)⟩,
 ⟨some 124,Op.fieldAddr 50 (Operand.tmp 1) 1,some (118,true)⟩,
 ⟨some 125,Op.load 22 (Operand.tmp 124),some (118,true)⟩,
 ⟨some 126,Op.move (Operand.tmp 6),some (118,true)⟩,
 ⟨some 127,Op.binOp BinOp.sub 3 (Operand.tmp 126) (Operand.const (Value.int IntKind.i64 1)) 3,some (118,true)⟩,
 ⟨some 128,Op.indexAddr 22 (Operand.tmp 125) (Operand.tmp 127),some (118,true)⟩,
 ⟨some 129,Op.load 2 (Operand.tmp 128),some (118,true)⟩,
 ⟨some 130,Op.binOp BinOp.leq 2 (Operand.tmp 123) (Operand.tmp 129) 2,some (118,true)⟩,
 ⟨some 131,Op.pick (Operand.tmp 118) (Operand.tmp 130) (Operand.const (Value.bool false)),some (105,false)⟩,
 ⟨some 132,Op.pick (Operand.tmp 105) (Operand.const (Value.bool true)) (Operand.tmp 131),some (92,true)⟩,
 ⟨some 133,Op.pick (Operand.tmp 92) (Operand.tmp 132) (Operand.const (Value.bool false)),none⟩])
 (.cond (Operand.tmp 133)
 (.seq
 (.region [] false ([]) [
 ⟨some 2,Op.assign (Operand.const (Value.bool false)),none⟩])
 .ret)
 .skip))))
 (.region [] false ([]) [
 ⟨some 57,Op.move (Operand.tmp 6),none⟩,
 ⟨some 58,Op.binOp BinOp.add 3 (Operand.tmp 57) (Operand.const (Value.int IntKind.i64 1)) 3,none⟩,
 ⟨some 6,Op.assign (Operand.tmp 58),none⟩]))))))
 (.seq
 (.seq
 (.region [] false ([]) [
 ⟨some 7,Op.assign (Operand.const (Value.int IntKind.i64 0)),none⟩])
 (.block 4
 (.loop
 (.seq
 (.seq
 (.region [] false ([]) [
 ⟨some 134,Op.move (Operand.tmp 7),none⟩,
 ⟨some 135,Op.fieldAddr 50 (Operand.tmp 1) 5,none⟩,
 ⟨some 136,Op.load 22 (Operand.tmp 135),none⟩,
 ⟨some 137,Op.call {callee:=Callee.builtin Builtin.len,args:=#[Operand.tmp 136],argTypes:=#[22]},none⟩,
 ⟨some 138,Op.binOp BinOp.lss 3 (Operand.tmp 134) (Operand.tmp 137) 3,none⟩])
 (.cond (Operand.tmp 138)
 .skip
 (.exit 4)))
 (.seq
 (.block 5
 (.seq
 (.region [] true ([]) [
 ⟨some 141,Op.fieldAddr 50 (Operand.tmp 1) 5,none⟩,
 ⟨some 142,Op.load 22 (Operand.tmp 141),none⟩,
 ⟨some 143,Op.move (Operand.tmp 7),none⟩,
 ⟨some 144,Op.indexAddr 22 (Operand.tmp 142) (Operand.tmp 143),none⟩,
 ⟨some 145,Op.load 2 (Operand.tmp 144),none⟩,
 ⟨some 146,Op.binOp BinOp.lss 2 (Operand.tmp 145) (Operand.const (Value.int IntKind.i64 0)) 2,none⟩,
 ⟨some 147,Op.move (Operand.tmp 146),none⟩,
 ⟨some 148,Op.fieldAddr 50 (Operand.tmp 1) 5,some (147,false)⟩,
 ⟨some 149,Op.load 22 (Operand.tmp 148),some (147,false)⟩,
 ⟨some 150,Op.move (Operand.tmp 7),some (147,false)⟩,
 ⟨some 151,Op.indexAddr 22 (Operand.tmp 149) (Operand.tmp 150),some (147,false)⟩,
 ⟨some 152,Op.load 2 (Operand.tmp 151),some (147,false)⟩,
 ⟨some 153,Op.move (Operand.tmp 4),some (147,false)⟩,
 ⟨some 154,Op.binOp BinOp.geq 2 (Operand.tmp 152) (Operand.tmp 153) 2,some (147,false)⟩,
 ⟨some 155,Op.pick (Operand.tmp 147) (Operand.const (Value.bool true)) (Operand.tmp 154),none⟩,
 ⟨some 156,Op.move (Operand.tmp 155),none⟩,
 ⟨some 157,Op.fieldAddr 50 (Operand.tmp 1) 0,some (156,false)⟩,
 ⟨some 158,Op.load 22 (Operand.tmp 157),some (156,false)⟩,
 ⟨some 159,Op.fieldAddr 50 (Operand.tmp 1) 5,some (156,false)⟩,
 ⟨some 160,Op.load 22 (Operand.tmp 159),some (156,false)⟩,
 ⟨some 161,Op.move (Operand.tmp 7),some (156,false)⟩,
 ⟨some 162,Op.indexAddr 22 (Operand.tmp 160) (Operand.tmp 161),some (156,false)⟩,
 ⟨some 163,Op.load 2 (Operand.tmp 162),some (156,false)⟩,
 ⟨some 164,Op.indexAddr 22 (Operand.tmp 158) (Operand.tmp 163),some (156,false)⟩,
 ⟨some 165,Op.load 2 (Operand.tmp 164),some (156,false)⟩,
 ⟨some 166,Op.move (Operand.tmp 7),some (156,false)⟩,
 ⟨some 167,Op.binOp BinOp.neq 2 (Operand.tmp 165) (Operand.tmp 166) 2,some (156,false)⟩,
 ⟨some 168,Op.pick (Operand.tmp 156) (Operand.const (Value.bool true)) (Operand.tmp 167),none⟩])
 (.cond (Operand.tmp 168)
 (.seq
 (.region [] false ([]) [
 ⟨some 2,Op.assign (Operand.const (Value.bool false)),none⟩])
 .ret)
 .skip)))
 (.region [] false ([]) [
 ⟨some 139,Op.move (Operand.tmp 7),none⟩,
 ⟨some 140,Op.binOp BinOp.add 3 (Operand.tmp 139) (Operand.const (Value.int IntKind.i64 1)) 3,none⟩,
 ⟨some 7,Op.assign (Operand.tmp 140),none⟩]))))))
 (.seq
 (.seq
 (.region [] true ([]) [
 ⟨some 169,Op.fieldAddr 50 (Operand.tmp 1) 2,none⟩,
 ⟨some 170,Op.load 22 (Operand.tmp 169),none⟩,
 ⟨some 171,Op.call {callee:=Callee.builtin Builtin.len,args:=#[Operand.tmp 170],argTypes:=#[22]},none⟩,
 ⟨some 172,Op.move (Operand.tmp 4),none⟩,
 ⟨some 173,Op.binOp BinOp.add 2 (Operand.tmp 172) (Operand.const (Value.int IntKind.i64 1)) 2,none⟩,
 ⟨some 174,Op.binOp BinOp.neq 2 (Operand.tmp 171) (Operand.tmp 173) 2,none⟩,
 ⟨some 175,Op.move (Operand.tmp 174),none⟩,
 ⟨some 176,Op.fieldAddr 50 (Operand.tmp 1) 2,some (175,false)⟩,
 ⟨some 177,Op.load 22 (Operand.tmp 176),some (175,false)⟩,
 ⟨some 178,Op.indexAddr 22 (Operand.tmp 177) (Operand.const (Value.int IntKind.i64 0)),some (175,false)⟩,
 ⟨some 179,Op.load 2 (Operand.tmp 178),some (175,false)⟩,
 ⟨some 180,Op.binOp BinOp.neq 2 (Operand.tmp 179) (Operand.const (Value.int IntKind.i64 0)) 2,some (175,false)⟩,
 ⟨some 181,Op.pick (Operand.tmp 175) (Operand.const (Value.bool true)) (Operand.tmp 180),none⟩,
 ⟨some 182,Op.move (Operand.tmp 181),none⟩,
 ⟨some 183,Op.fieldAddr 50 (Operand.tmp 1) 2,some (182,false)⟩,
 ⟨some 184,Op.load 22 (Operand.tmp 183),some (182,false)⟩,
 ⟨some 185,Op.move (Operand.tmp 4),some (182,false)⟩,
 ⟨some 186,Op.indexAddr 22 (Operand.tmp 184) (Operand.tmp 185),some (182,false)⟩,
 ⟨some 187,Op.load 2 (Operand.tmp 186),some (182,false)⟩,
 ⟨some 188,Op.fieldAddr 50 (Operand.tmp 1) 3,some (182,false)⟩,
 ⟨some 189,Op.load 22 (Operand.tmp 188),some (182,false)⟩,
 ⟨some 190,Op.call {callee:=Callee.builtin Builtin.len,args:=#[Operand.tmp 189],argTypes:=#[22]},some (182,false)⟩,
 ⟨some 191,Op.binOp BinOp.neq 2 (Operand.tmp 187) (Operand.tmp 190) 2,some (182,false)⟩,
 ⟨some 192,Op.pick (Operand.tmp 182) (Operand.const (Value.bool true)) (Operand.tmp 191),none⟩])
 (.cond (Operand.tmp 192)
 (.seq
 (.region [] false ([]) [
 ⟨some 2,Op.assign (Operand.const (Value.bool false)),none⟩])
 .ret)
 .skip))
 (.seq
 (.seq
 (.region [] false ([]) [
 ⟨some 8,Op.assign (Operand.const (Value.int IntKind.i64 0)),none⟩])
 (.block 6
 (.loop
 (.seq
 (.seq
 (.region [] false ([]) [
 ⟨some 193,Op.move (Operand.tmp 8),none⟩,
 ⟨some 194,Op.move (Operand.tmp 4),none⟩,
 ⟨some 195,Op.binOp BinOp.lss 2 (Operand.tmp 193) (Operand.tmp 194) 2,none⟩])
 (.cond (Operand.tmp 195)
 .skip
 (.exit 6)))
 (.seq
 (.block 7
 (.seq
 (.region [] true ([]) [
 ⟨some 198,Op.fieldAddr 50 (Operand.tmp 1) 2,none⟩,
 ⟨some 199,Op.load 22 (Operand.tmp 198),none⟩,
 ⟨some 200,Op.move (Operand.tmp 8),none⟩,
 ⟨some 201,Op.indexAddr 22 (Operand.tmp 199) (Operand.tmp 200),none⟩,
 ⟨some 202,Op.load 2 (Operand.tmp 201),none⟩,
 ⟨some 203,Op.fieldAddr 50 (Operand.tmp 1) 2,none⟩,
 ⟨some 204,Op.load 22 (Operand.tmp 203),none⟩,
 ⟨some 205,Op.move (Operand.tmp 8),none⟩,
 ⟨some 206,Op.binOp BinOp.add 2 (Operand.tmp 205) (Operand.const (Value.int IntKind.i64 1)) 2,none⟩,
 ⟨some 207,Op.indexAddr 22 (Operand.tmp 204) (Operand.tmp 206),none⟩,
 ⟨some 208,Op.load 2 (Operand.tmp 207),none⟩,
 ⟨some 209,Op.binOp BinOp.gtr 2 (Operand.tmp 202) (Operand.tmp 208) 2,none⟩])
 (.cond (Operand.tmp 209)
 (.seq
 (.region [] false ([]) [
 ⟨some 2,Op.assign (Operand.const (Value.bool false)),none⟩])
 .ret)
 .skip)))
 (.region [] false ([]) [
 ⟨some 196,Op.move (Operand.tmp 8),none⟩,
 ⟨some 197,Op.binOp BinOp.add 2 (Operand.tmp 196) (Operand.const (Value.int IntKind.i64 1)) 2,none⟩,
 ⟨some 8,Op.assign (Operand.tmp 197),none⟩]))))))
 (.seq
 (.seq
 (.region [] false ([]) [
 ⟨some 210,Op.fieldAddr 50 (Operand.tmp 1) 4,none⟩,
 ⟨some 211,Op.load 22 (Operand.tmp 210),none⟩,
 ⟨some 212,Op.call {callee:=Callee.builtin Builtin.len,args:=#[Operand.tmp 211],argTypes:=#[22]},none⟩,
 ⟨some 213,Op.fieldAddr 50 (Operand.tmp 1) 3,none⟩,
 ⟨some 214,Op.load 22 (Operand.tmp 213),none⟩,
 ⟨some 215,Op.call {callee:=Callee.builtin Builtin.len,args:=#[Operand.tmp 214],argTypes:=#[22]},none⟩,
 ⟨some 216,Op.binOp BinOp.neq 3 (Operand.tmp 212) (Operand.tmp 215) 3,none⟩,
 ⟨some 217,Op.move (Operand.tmp 216),none⟩,
 ⟨some 218,Op.fieldAddr 50 (Operand.tmp 1) 3,some (217,false)⟩,
 ⟨some 219,Op.load 22 (Operand.tmp 218),some (217,false)⟩,
 ⟨some 220,Op.call {callee:=Callee.builtin Builtin.len,args:=#[Operand.tmp 219],argTypes:=#[22]},some (217,false)⟩,
 ⟨some 221,Op.binOp BinOp.gtr 3 (Operand.tmp 220) (Operand.const (Value.int IntKind.i64 40000)) 3,some (217,false)⟩,
 ⟨some 222,Op.pick (Operand.tmp 217) (Operand.const (Value.bool true)) (Operand.tmp 221),none⟩])
 (.cond (Operand.tmp 222)
 (.seq
 (.region [] false ([]) [
 ⟨some 2,Op.assign (Operand.const (Value.bool false)),none⟩])
 .ret)
 .skip))
 (.seq
 (.seq
 (.region [] false ([]) [
 ⟨some 9,Op.assign (Operand.const (Value.int IntKind.i64 0)),none⟩])
 (.block 8
 (.loop
 (.seq
 (.seq
 (.region [] false ([]) [
 ⟨some 223,Op.move (Operand.tmp 9),none⟩,
 ⟨some 224,Op.fieldAddr 50 (Operand.tmp 1) 3,none⟩,
 ⟨some 225,Op.load 22 (Operand.tmp 224),none⟩,
 ⟨some 226,Op.call {callee:=Callee.builtin Builtin.len,args:=#[Operand.tmp 225],argTypes:=#[22]},none⟩,
 ⟨some 227,Op.binOp BinOp.lss 3 (Operand.tmp 223) (Operand.tmp 226) 3,none⟩])
 (.cond (Operand.tmp 227)
 .skip
 (.exit 8)))
 (.seq
 (.block 9
 (.seq
 (.region [] false ([]) [
 ⟨some 230,Op.fieldAddr 50 (Operand.tmp 1) 3,none⟩,
 ⟨some 231,Op.load 22 (Operand.tmp 230),none⟩,
 ⟨some 232,Op.move (Operand.tmp 9),none⟩,
 ⟨some 233,Op.indexAddr 22 (Operand.tmp 231) (Operand.tmp 232),none⟩,
 ⟨some 234,Op.load 2 (Operand.tmp 233),none⟩,
 ⟨some 235,Op.binOp BinOp.lss 2 (Operand.tmp 234) (Operand.const (Value.int IntKind.i64 0)) 2,none⟩,
 ⟨some 236,Op.move (Operand.tmp 235),none⟩,
 ⟨some 237,Op.fieldAddr 50 (Operand.tmp 1) 3,some (236,false)⟩,
 ⟨some 238,Op.load 22 (Operand.tmp 237),some (236,false)⟩,
 ⟨some 239,Op.move (Operand.tmp 9),some (236,false)⟩,
 ⟨some 240,Op.indexAddr 22 (Operand.tmp 238) (Operand.tmp 239),some (236,false)⟩,
 ⟨some 241,Op.load 2 (Operand.tmp 240),some (236,false)⟩,
 ⟨some 242,Op.move (Operand.tmp 4),some (236,false)⟩,
 ⟨some 243,Op.binOp BinOp.geq 2 (Operand.tmp 241) (Operand.tmp 242) 2,some (236,false)⟩,
 ⟨some 244,Op.pick (Operand.tmp 236) (Operand.const (Value.bool true)) (Operand.tmp 243),none⟩,
 ⟨some 245,Op.move (Operand.tmp 244),none⟩,
 ⟨some 246,Op.fieldAddr 50 (Operand.tmp 1) 4,some (245,false)⟩,
 ⟨some 247,Op.load 22 (Operand.tmp 246),some (245,false)⟩,
 ⟨some 248,Op.move (Operand.tmp 9),some (245,false)⟩,
 ⟨some 249,Op.indexAddr 22 (Operand.tmp 247) (Operand.tmp 248),some (245,false)⟩,
 ⟨some 250,Op.load 2 (Operand.tmp 249),some (245,false)⟩,
 ⟨some 251,Op.binOp BinOp.lss 2 (Operand.tmp 250) (Operand.const (Value.int IntKind.i64 0)) 2,some (245,false)⟩,
 ⟨some 252,Op.pick (Operand.tmp 245) (Operand.const (Value.bool true)) (Operand.tmp 251),none⟩,
 ⟨some 253,Op.move (Operand.tmp 252),none⟩,
 ⟨some 254,Op.fieldAddr 50 (Operand.tmp 1) 4,some (253,false)⟩,
 ⟨some 255,Op.load 22 (Operand.tmp 254),some (253,false)⟩,
 ⟨some 256,Op.move (Operand.tmp 9),some (253,false)⟩,
 ⟨some 257,Op.indexAddr 22 (Operand.tmp 255) (Operand.tmp 256),some (253,false)⟩,
 ⟨some 258,Op.load 2 (Operand.tmp 257),some (253,false)⟩,
 ⟨some 259,Op.binOp BinOp.gtr 2 (Operand.tmp 258) (Operand.const (Value.int IntKind.i64 3145728)) 2,some (253,false)⟩,
 ⟨some 260,Op.pick (Operand.tmp 253) (Operand.const (Value.bool true)) (Operand.tmp 259),none⟩])
 (.cond (Operand.tmp 260)
 (.seq
 (.region [] false ([]) [
 ⟨some 2,Op.assign (Operand.const (Value.bool false)),none⟩])
 .ret)
 .skip)))
 (.region [] false ([]) [
 ⟨some 228,Op.move (Operand.tmp 9),none⟩,
 ⟨some 229,Op.binOp BinOp.add 3 (Operand.tmp 228) (Operand.const (Value.int IntKind.i64 1)) 3,none⟩,
 ⟨some 9,Op.assign (Operand.tmp 229),none⟩]))))))
 (.seq
 (.seq
 (.region [] false ([]) [
 ⟨some 10,Op.assign (Operand.const (Value.int IntKind.i64 0)),none⟩])
 (.block 10
 (.loop
 (.seq
 (.seq
 (.region [] false ([]) [
 ⟨some 261,Op.move (Operand.tmp 10),none⟩,
 ⟨some 262,Op.move (Operand.tmp 4),none⟩,
 ⟨some 263,Op.binOp BinOp.lss 2 (Operand.tmp 261) (Operand.tmp 262) 2,none⟩])
 (.cond (Operand.tmp 263)
 .skip
 (.exit 10)))
 (.seq
 (.block 11
 (.seq
 (.region [] false ([]) [
 ⟨some 266,Op.fieldAddr 50 (Operand.tmp 1) 2,none⟩,
 ⟨some 267,Op.load 22 (Operand.tmp 266),none⟩,
 ⟨some 268,Op.move (Operand.tmp 10),none⟩,
 ⟨some 269,Op.indexAddr 22 (Operand.tmp 267) (Operand.tmp 268),none⟩,
 ⟨some 270,Op.load 2 (Operand.tmp 269),none⟩,
 ⟨some 271,Op.binOp BinOp.add 2 (Operand.tmp 270) (Operand.const (Value.int IntKind.i64 1)) 2,none⟩,
 ⟨some 11,Op.assign (Operand.tmp 271),none⟩])
 (.block 12
 (.loop
 (.seq
 (.seq
 (.region [] false ([]) [
 ⟨some 272,Op.move (Operand.tmp 11),none⟩,
 ⟨some 273,Op.fieldAddr 50 (Operand.tmp 1) 2,none⟩,
 ⟨some 274,Op.load 22 (Operand.tmp 273),none⟩,
 ⟨some 275,Op.move (Operand.tmp 10),none⟩,
 ⟨some 276,Op.binOp BinOp.add 2 (Operand.tmp 275) (Operand.const (Value.int IntKind.i64 1)) 2,none⟩,
 ⟨some 277,Op.indexAddr 22 (Operand.tmp 274) (Operand.tmp 276),none⟩,
 ⟨some 278,Op.load 2 (Operand.tmp 277),none⟩,
 ⟨some 279,Op.binOp BinOp.lss 2 (Operand.tmp 272) (Operand.tmp 278) 2,none⟩])
 (.cond (Operand.tmp 279)
 .skip
 (.exit 12)))
 (.seq
 (.block 13
 (.seq
 (.region [] true ([]) [
 ⟨some 282,Op.fieldAddr 50 (Operand.tmp 1) 0,none⟩,
 ⟨some 283,Op.load 22 (Operand.tmp 282),none⟩,
 ⟨some 284,Op.fieldAddr 50 (Operand.tmp 1) 3,none⟩,
 ⟨some 285,Op.load 22 (Operand.tmp 284),none⟩,
 ⟨some 286,Op.move (Operand.tmp 11),none⟩,
 ⟨some 287,Op.indexAddr 22 (Operand.tmp 285) (Operand.tmp 286),none⟩,
 ⟨some 288,Op.load 2 (Operand.tmp 287),none⟩,
 ⟨some 289,Op.indexAddr 22 (Operand.tmp 283) (Operand.tmp 288),none⟩,
 ⟨some 290,Op.load 2 (Operand.tmp 289),none⟩,
 ⟨some 291,Op.fieldAddr 50 (Operand.tmp 1) 0,none⟩,
 ⟨some 292,Op.load 22 (Operand.tmp 291),none⟩,
 ⟨some 293,Op.fieldAddr 50 (Operand.tmp 1) 3,none⟩,
 ⟨some 294,Op.load 22 (Operand.tmp 293),none⟩,
 ⟨some 295,Op.move (Operand.tmp 11),none⟩,
 ⟨some 296,Op.binOp BinOp.sub 2 (Operand.tmp 295) (Operand.const (Value.int IntKind.i64 1)) 2,none⟩,
 ⟨some 297,Op.indexAddr 22 (Operand.tmp 294) (Operand.tmp 296),none⟩,
 ⟨some 298,Op.load 2 (Operand.tmp 297),none⟩,
 ⟨some 299,Op.indexAddr 22 (Operand.tmp 292) (Operand.tmp 298),none⟩,
 ⟨some 300,Op.load 2 (Operand.tmp 299),none⟩,
 ⟨some 301,Op.binOp BinOp.leq 2 (Operand.tmp 290) (Operand.tmp 300) 2,none⟩])
 (.cond (Operand.tmp 301)
 (.seq
 (.region [] false ([]) [
 ⟨some 2,Op.assign (Operand.const (Value.bool false)),none⟩])
 .ret)
 .skip)))
 (.region [] false ([]) [
 ⟨some 280,Op.move (Operand.tmp 11),none⟩,
 ⟨some 281,Op.binOp BinOp.add 2 (Operand.tmp 280) (Operand.const (Value.int IntKind.i64 1)) 2,none⟩,
 ⟨some 11,Op.assign (Operand.tmp 281),none⟩])))))))
 (.region [] false ([]) [
 ⟨some 264,Op.move (Operand.tmp 10),none⟩,
 ⟨some 265,Op.binOp BinOp.add 2 (Operand.tmp 264) (Operand.const (Value.int IntKind.i64 1)) 2,none⟩,
 ⟨some 10,Op.assign (Operand.tmp 265),none⟩]))))))
 (.seq
 (.region [] false ([]) [
 ⟨some 2,Op.assign (Operand.const (Value.bool true)),none⟩])
 .ret)))))))))))))
set_option maxHeartbeats 0 in
theorem vgS (g : Gr) (h1 : g.edgeOf.length ≤ 1048576) (h2 : g.stateOf.length ≤ 1048576) (h3 : g.first.length ≤ 1048576) (h4 : g.to.length ≤ 1048576) (h5 : g.cost.length ≤ 1048576) (h6 : g.start.length ≤ 1048576) (h7 : g.weight.length ≤ 1048576) :
    CallsF Try.prog 80 [.agg (encG g)] (.t (.v (.bool (decide (VG g))))) [] := by
  refine callsF_of_wp1 (fn := Try.f80) (k := k80) (fun _ => []) mixed (by kernel_rfl) rfl (by kernel_rfl) (by kernel_rfl) (by kernel_rfl) rfl (by simp [Try.f80]) (by simp [Arg.like]) ?_
  generalize hst : St.enter [.agg (encG g)] = st0
  have t0 : st0.tm 0 = .agg ((encG g) |>.map .t) := by rw [← hst]; rfl
  clear hst
  unfold k80
  simp [encG] at t0
  repeat' (first
   | refine wp1_seq fun K hK => ?_
   | refine M_cons fun K hK => ?_
   | (refine hK _ ?_; clear hK K)
   | (refine hX _ ?_; clear hX hY X Y)
   | (refine hY _ ?_; clear hX hY X Y)
   | refine wp1_block ?_
   | refine wp1_region ?_
   | refine wp1_cond fun X Y hX hY => ?_
   | (refine condK_of (fun c => ?_) (fun c => ?_) <;> (try simp [-List.length_eq_zero_iff] at c))
   | (refine guard1_or (fun c => ?_) (fun c => ?_) <;> (have cc := c) <;> (try simp [-List.length_eq_zero_iff] at cc) <;> (try simp (disch := omega) [t0, c]))
   | simp (maxSteps := 4000000) (disch := omega) [t0])
  all_goals try (simp [Back]; intro h; have e1 := h.l1; have e2 := h.l2; have e3 := h.l3; have e4 := h.l4; omega)
  have l1 : g.start.length ≤ 4000 := by omega
  have l2 : g.weight.length = g.start.length := by omega
  have l3 : g.edgeOf.length ≤ 6000 := by omega
  have l4 : g.stateOf.length = g.edgeOf.length := by omega
  have hJ : ∀ s, GI g s → (∀ i : Nat, i < g.weight.length → inR (rd g.weight i)) → K s := by
    rintro s ⟨s1, o, s3, s4⟩ hw
    repeat' (first
     | refine wp1_seq fun K hK => ?_
     | refine M_cons fun K hK => ?_
     | (refine hK _ ?_; clear hK K)
     | refine wp1_block ?_
     | refine wp1_region ?_
     | simp (maxSteps := 4000000) (disch := omega) [s1, o, s3, s4])
    have hJ : ∀ s, GI g s → (∀ i : Nat, i < g.edgeOf.length → VOK g i) → K s := by
      rintro s ⟨s1, o, s3, s4⟩ hv
      repeat' (first
       | refine wp1_seq fun K hK => ?_
       | refine M_cons fun K hK => ?_
       | (refine hK _ ?_; clear hK K)
       | refine wp1_block ?_
       | refine wp1_region ?_
       | simp (maxSteps := 4000000) (disch := omega) [s1, o, s3, s4])
      have hJ : ∀ s, GI g s → (∀ i : Nat, i < g.start.length → SOK g i) → K s := by
        rintro s ⟨s1, o, s3, s4⟩ hs
        repeat' (first
         | refine wp1_seq fun K hK => ?_
         | refine M_cons fun K hK => ?_
         | (refine hK _ ?_; clear hK K)
         | (refine hX _ ?_; clear hX hY X Y)
         | (refine hY _ ?_; clear hX hY X Y)
         | refine wp1_block ?_
         | refine wp1_region ?_
         | refine wp1_cond fun X Y hX hY => ?_
         | (refine condK_of (fun c => ?_) (fun c => ?_) <;> (try simp [-List.length_eq_zero_iff] at c))
         | (refine guard1_or (fun c => ?_) (fun c => ?_) <;> (have cc := c) <;> (try simp [-List.length_eq_zero_iff] at cc) <;> (try simp (disch := omega) [s1, o, s3, s4, c]))
         | simp (maxSteps := 4000000) (disch := omega) [s1, o, s3, s4])
        all_goals try (simp [Back]; intro h; have e1 := h.f0; have e2 := h.fv; have e3 := h.l5; omega)
        have l5 : g.first.length = g.edgeOf.length + 1 := by omega
        have f0 : rd g.first 0 = 0 := by omega
        have fv : rd g.first g.edgeOf.length = g.to.length := by omega
        have hJ : ∀ s, GI g s → (∀ i : Nat, i < g.edgeOf.length → rd g.first i ≤ rd g.first ((i : Int) + 1)) → K s := by
          rintro s ⟨s1, o, s3, s4⟩ hf
          repeat' (first
           | refine wp1_seq fun K hK => ?_
           | refine M_cons fun K hK => ?_
           | (refine hK _ ?_; clear hK K)
           | (refine hX _ ?_; clear hX hY X Y)
           | (refine hY _ ?_; clear hX hY X Y)
           | refine wp1_block ?_
           | refine wp1_region ?_
           | refine wp1_cond fun X Y hX hY => ?_
           | (refine condK_of (fun c => ?_) (fun c => ?_) <;> (try simp [-List.length_eq_zero_iff] at c))
           | (refine guard1_or (fun c => ?_) (fun c => ?_) <;> (have cc := c) <;> (try simp [-List.length_eq_zero_iff] at cc) <;> (try simp (disch := omega) [s1, o, s3, s4, c]))
           | simp (maxSteps := 4000000) (disch := omega) [s1, o, s3, s4])
          all_goals try (simp [Back]; intro h; have e1 := h.l6; have e2 := h.l7; omega)
          have l6 : g.to.length = g.cost.length := by omega
          have l7 : g.to.length ≤ 40000 := by omega
          have hJ : ∀ s, GI g s → (∀ i : Nat, i < g.to.length → TOK g i) → K s := by
            rintro s ⟨s1, o, s3, s4⟩ ht
            repeat' (first
             | refine wp1_seq fun K hK => ?_
             | refine M_cons fun K hK => ?_
             | (refine hK _ ?_; clear hK K)
             | refine wp1_block ?_
             | refine wp1_region ?_
             | simp (maxSteps := 4000000) (disch := omega) [s1, o, s3, s4])
            have hJ : ∀ s, (∀ i : Nat, i < g.edgeOf.length → AOK g i) → K s := by
              intro s ha
              have : VG g := ⟨l1, l2, l3, l4, l5, l6, l7, hw, hv, hs, f0, fv, hf, ht, ha⟩
              repeat' (first
               | refine wp1_seq fun K hK => ?_
               | refine M_cons fun K hK => ?_
               | (refine hK _ ?_; clear hK K)
               | refine wp1_region ?_
               | simp (maxSteps := 4000000) (disch := omega) [this])
              all_goals try (simp [this, Back]; done)
            clear hK
            have hmono := firsts f0 fv hf
            refine wp1_loop (fun n s => ∃ k : Nat, GI g s ∧ s.tm 10 = .t (.v (.int .i64 k)) ∧ k ≤ g.edgeOf.length ∧ n = g.edgeOf.length - k ∧ ∀ i < k, AOK g i) g.edgeOf.length ?_ ?_
            · exact ⟨0, by simp [GI, s1, o, s3, s4]⟩
            · rintro n s ⟨k, ⟨s1, o, s3, s4⟩, s12, hk, rfl, hq⟩ K' hK'
              have b1 := hmono k hk
              have b2 : k < g.edgeOf.length → 0 ≤ rd g.first ((k : Int) + 1) ∧ rd g.first ((k : Int) + 1) ≤ g.to.length := fun h => by have := hmono (k + 1) (by omega); simpa using this
              repeat' (first
               | refine wp1_seq fun K hK => ?_
               | refine M_cons fun K hK => ?_
               | (refine hK _ ?_; clear hK K)
               | (refine hX _ ?_; clear hX hY X Y)
               | (refine hY _ ?_; clear hX hY X Y)
               | refine wp1_block ?_
               | refine wp1_region ?_
               | refine wp1_cond fun X Y hX hY => ?_
               | (refine condK_of (fun c => ?_) (fun c => ?_) <;> (try simp [-List.length_eq_zero_iff] at c))
               | simp (maxSteps := 4000000) (disch := omega) [s1, o, s3, s4, s12])
              · have hk2 : k < g.edgeOf.length := by assumption
                have b2 := b2 hk2
                have hJ2 : ∀ s, GI g s → s.tm 10 = .t (.v (.int .i64 k)) → AOK g k → K s := by
                  rintro s ⟨s1, o, s3, s4⟩ s12 hak
                  repeat' (first
                   | refine M_cons fun K hK => ?_
                   | (refine hK _ ?_; clear hK K)
                   | refine wp1_region ?_
                   | simp (maxSteps := 4000000) (disch := omega) [s1, o, s3, s4, s12])
                  refine hK' (g.edgeOf.length - (k + 1)) _ (by omega) ⟨k + 1, ?_⟩
                  simp [GI, s1, o, s3, s4]
                  exact ⟨by omega, below_succ hq hak⟩
                clear hK
                refine wp1_loop (fun n s => ∃ j : Int, GI g s ∧ s.tm 10 = .t (.v (.int .i64 k)) ∧ s.tm 11 = .t (.v (.int .i64 j)) ∧ rd g.first k < j ∧ j ≤ g.to.length + 1 ∧ n = (g.to.length + 1 - j).toNat ∧ ∀ i : Int, rd g.first k < i → i < j → i < rd g.first ((k : Int) + 1) → rd g.edgeOf (rd g.to (i - 1)) < rd g.edgeOf (rd g.to i)) (g.to.length + 1 - (rd g.first k + 1)).toNat ?_ ?_
                · refine ⟨rd g.first k + 1, ?_⟩
                  simp [GI, s1, o, s3, s4, s12]
                  exact ⟨by omega, by omega, fun i h1 h2 => by omega⟩
                · rintro n s ⟨j, ⟨s1, o, s3, s4⟩, s12, s13, hj1, hj2, rfl, hq2⟩ K'' hK''
                  have b3 : j < rd g.first ((k : Int) + 1) → 0 ≤ rd g.to (j - 1) ∧ rd g.to (j - 1) < g.edgeOf.length ∧ 0 ≤ rd g.to j ∧ rd g.to j < g.edgeOf.length := fun h => by
                    have e1 := ht (j - 1).toNat (by omega)
                    have e2 := ht j.toNat (by omega)
                    unfold TOK at e1 e2
                    rw [Int.toNat_of_nonneg (by omega)] at e1 e2
                    omega
                  repeat' (first
                   | refine wp1_seq fun K hK => ?_
                   | refine M_cons fun K hK => ?_
                   | (refine hK _ ?_; clear hK K)
                   | (refine hX _ ?_; clear hX hY X Y)
                   | (refine hY _ ?_; clear hX hY X Y)
                   | refine wp1_block ?_
                   | refine wp1_region ?_
                   | refine wp1_cond fun X Y hX hY => ?_
                   | (refine condK_of (fun c => ?_) (fun c => ?_) <;> (try simp [-List.length_eq_zero_iff] at c))
                   | simp (maxSteps := 4000000) (disch := omega) [s1, o, s3, s4, s12, s13])
                  all_goals first
                    | (simp [Back]; intro h; have := h.a k hk2 j hj1 (by omega); omega)
                    | (refine hK'' (g.to.length + 1 - (j + 1)).toNat _ (by omega) ⟨j + 1, ?_⟩; simp [GI, s1, o, s3, s4, s12]; exact ⟨by omega, by omega, fun i h1 h2 h3 => (Classical.em (i = j)).elim (fun e => by subst e; omega) (fun e => hq2 i h1 (by omega) h3)⟩)
                    | (refine hJ2 _ (by simp [GI, s1, o, s3, s4]) (by simp [s12]) fun i h1 h2 => hq2 i h1 (by omega) h2)
                    | skip
              · exact hJ _ fun i hi => hq i (by omega)
          clear hK
          refine wp1_loop (fun n s => ∃ k : Nat, GI g s ∧ s.tm 9 = .t (.v (.int .i64 k)) ∧ k ≤ g.to.length ∧ n = g.to.length - k ∧ ∀ i < k, TOK g i) g.to.length ?_ ?_
          · exact ⟨0, by simp [GI, s1, o, s3, s4]⟩
          · rintro n s ⟨k, ⟨s1, o, s3, s4⟩, s9, hk, rfl, hq⟩ K' hK'
            repeat' (first
             | refine wp1_seq fun K hK => ?_
             | refine M_cons fun K hK => ?_
             | (refine hK _ ?_; clear hK K)
             | (refine hX _ ?_; clear hX hY X Y)
             | (refine hY _ ?_; clear hX hY X Y)
             | refine wp1_block ?_
             | refine wp1_region ?_
             | refine wp1_cond fun X Y hX hY => ?_
             | (refine condK_of (fun c => ?_) (fun c => ?_) <;> (try simp [-List.length_eq_zero_iff] at c))
             | (refine guard1_or (fun c => ?_) (fun c => ?_) <;> (have cc := c) <;> (try simp [-List.length_eq_zero_iff] at cc) <;> (try simp (disch := omega) [s1, o, s3, s4, s9, c]))
             | simp (maxSteps := 4000000) (disch := omega) [s1, o, s3, s4, s9])
            all_goals first
              | (simp [Back]; intro h; have hv := h.t k (by omega); unfold TOK at hv; omega)
              | (refine hK' (g.to.length - (k + 1)) _ (by omega) ⟨k + 1, ?_⟩; simp [GI, s1, o, s3, s4]; exact ⟨by omega, below_succ hq (by unfold TOK; omega)⟩)
              | (refine hJ _ (by simp [GI, s1, o, s3, s4]) fun i hi => hq i (by omega))
              | skip
        clear hK
        refine wp1_loop (fun n s => ∃ k : Nat, GI g s ∧ s.tm 8 = .t (.v (.int .i64 k)) ∧ k ≤ g.edgeOf.length ∧ n = g.edgeOf.length - k ∧ ∀ i < k, rd g.first i ≤ rd g.first ((i : Int) + 1)) g.edgeOf.length ?_ ?_
        · exact ⟨0, by simp [GI, s1, o, s3, s4]⟩
        · rintro n s ⟨k, ⟨s1, o, s3, s4⟩, s10, hk, rfl, hq⟩ K' hK'
          repeat' (first
           | refine wp1_seq fun K hK => ?_
           | refine M_cons fun K hK => ?_
           | (refine hK _ ?_; clear hK K)
           | (refine hX _ ?_; clear hX hY X Y)
           | (refine hY _ ?_; clear hX hY X Y)
           | refine wp1_block ?_
           | refine wp1_region ?_
           | refine wp1_cond fun X Y hX hY => ?_
           | (refine condK_of (fun c => ?_) (fun c => ?_) <;> (try simp [-List.length_eq_zero_iff] at c))
           | simp (maxSteps := 4000000) (disch := omega) [s1, o, s3, s4, s10])
          all_goals first
            | (simp [Back]; intro h; have hv := h.f k (by omega); omega)
            | (refine hK' (g.edgeOf.length - (k + 1)) _ (by omega) ⟨k + 1, ?_⟩; simp [GI, s1, o, s3, s4]; exact ⟨by omega, below_succ hq (by omega)⟩)
            | (refine hJ _ (by simp [GI, s1, o, s3, s4]) fun i hi => hq i (by omega))
            | skip
      clear hK
      refine wp1_loop (fun n s => ∃ k : Nat, GI g s ∧ s.tm 7 = .t (.v (.int .i64 k)) ∧ k ≤ g.start.length ∧ n = g.start.length - k ∧ ∀ i < k, SOK g i) g.start.length ?_ ?_
      · exact ⟨0, by simp [GI, s1, o, s3, s4]⟩
      · rintro n s ⟨k, ⟨s1, o, s3, s4⟩, s7, hk, rfl, hq⟩ K' hK'
        repeat' (first
         | refine wp1_seq fun K hK => ?_
         | refine M_cons fun K hK => ?_
         | (refine hK _ ?_; clear hK K)
         | (refine hX _ ?_; clear hX hY X Y)
         | (refine hY _ ?_; clear hX hY X Y)
         | refine wp1_block ?_
         | refine wp1_region ?_
         | refine wp1_cond fun X Y hX hY => ?_
         | (refine condK_of (fun c => ?_) (fun c => ?_) <;> (try simp [-List.length_eq_zero_iff] at c))
         | (refine guard1_or (fun c => ?_) (fun c => ?_) <;> (have cc := c) <;> (try simp [-List.length_eq_zero_iff] at cc) <;> (try simp (disch := omega) [s1, o, s3, s4, s7, c]))
         | simp (maxSteps := 4000000) (disch := omega) [s1, o, s3, s4, s7])
        all_goals first
          | (simp [Back]; intro h; have hv := h.s k (by omega); unfold SOK at hv; omega)
          | (refine hK' (g.start.length - (k + 1)) _ (by omega) ⟨k + 1, ?_⟩; simp [GI, s1, o, s3, s4]; exact ⟨by omega, below_succ hq (by unfold SOK; omega)⟩)
          | (refine hJ _ (by simp [GI, s1, o, s3, s4]) fun i hi => hq i (by omega))
          | skip
    clear hK
    refine wp1_loop (fun n s => ∃ k : Nat, GI g s ∧ s.tm 6 = .t (.v (.int .i64 k)) ∧ k ≤ g.edgeOf.length ∧ n = g.edgeOf.length - k ∧ ∀ i < k, VOK g i) g.edgeOf.length ?_ ?_
    · exact ⟨0, by simp [GI, s1, o, s3, s4]⟩
    · rintro n s ⟨k, ⟨s1, o, s3, s4⟩, s7, hk, rfl, hv⟩ K' hK'
      repeat' (first
       | refine wp1_seq fun K hK => ?_
       | refine M_cons fun K hK => ?_
       | (refine hK _ ?_; clear hK K)
       | (refine hX _ ?_; clear hX hY X Y)
       | (refine hY _ ?_; clear hX hY X Y)
       | refine wp1_block ?_
       | refine wp1_region ?_
       | refine wp1_cond fun X Y hX hY => ?_
       | (refine condK_of (fun c => ?_) (fun c => ?_) <;> (try simp [-List.length_eq_zero_iff] at c))
       | (refine guard1_or (fun c => ?_) (fun c => ?_) <;> (have cc := c) <;> (try simp [-List.length_eq_zero_iff] at cc) <;> (try simp (disch := omega) [s1, o, s3, s4, s7, c]))
       | simp (maxSteps := 4000000) (disch := omega) [s1, o, s3, s4, s7])
      all_goals first
        | (simp [Back]; intro h; have hv := h.v k (by omega); unfold VOK at hv; omega)
        | (refine hK' (g.edgeOf.length - (k + 1)) _ (by omega) ⟨k + 1, ?_⟩; simp [GI, s1, o, s3, s4]; exact ⟨by omega, below_succ hv (by unfold VOK; omega)⟩)
        | (refine hJ _ (by simp [GI, s1, o, s3, s4]) fun i hi => hv i (by omega))
        | skip
  clear hK
  refine wp1_loop (fun n s => ∃ k : Nat, GI g s ∧ s.tm 5 = .t (.v (.int .i64 k)) ∧ k ≤ g.weight.length ∧ n = g.weight.length - k ∧ ∀ i < k, inR (rd g.weight i)) g.weight.length ?_ ?_
  · exact ⟨0, by simp [GI]⟩
  · rintro n s ⟨k, ⟨s1, o, s3, s4⟩, s66, hk, rfl, hw⟩ K' hK'
    repeat' (first
     | refine wp1_seq fun K hK => ?_
     | refine M_cons fun K hK => ?_
     | (refine hK _ ?_; clear hK K)
     | (refine hX _ ?_; clear hX hY X Y)
     | (refine hY _ ?_; clear hX hY X Y)
     | refine wp1_block ?_
     | refine wp1_region ?_
     | refine wp1_cond fun X Y hX hY => ?_
     | (refine condK_of (fun c => ?_) (fun c => ?_) <;> (try simp [-List.length_eq_zero_iff] at c))
     | (refine callT_fl (l1In_c _) (by simp [St.args, St.arg, s1, o, s3, s4, s66] <;> first | rfl | ((repeat' first | rfl | apply And.intro); first | done | fail)) ?_)
     | simp (maxSteps := 4000000) (disch := omega) [s1, o, s3, s4, s66])
    · simp [Back]; intro h; exact c (h.w k (by omega))
    · refine hK' (g.weight.length - (k + 1)) _ (by omega) ⟨k + 1, ?_⟩
      simp [GI, s1, o, s3, s4]
      exact ⟨by omega, below_succ hw c⟩
    · refine hJ _ (by simp [GI, s1, o, s3, s4]) fun i hi => hw i (by omega)
end Cal

set_option linter.unusedSimpArgs false
set_option linter.unusedVariables false
namespace Cal
open Go Go.Proofs
set_option maxRecDepth 100000
/-- The code of impl.ValidGraph. -/
def k87 : Code1 :=
 (.seq
 (.region [1] false ([]) [
 ⟨some 1,Op.box 50 (Operand.tmp 0),none⟩,
 ⟨some 2,Op.assign (Operand.const (Value.bool false)),none⟩])
 (.seq
 (.region [] true ([]) [
 ⟨some 14,Op.fieldAddr 50 (Operand.tmp 1) 5,none⟩,
 ⟨some 15,Op.load 22 (Operand.tmp 14),none⟩,
 ⟨some 16,Op.call {callee:=Callee.builtin Builtin.len,args:=#[Operand.tmp 15],argTypes:=#[22]},none⟩,
 ⟨some 17,Op.fieldAddr 50 (Operand.tmp 1) 0,none⟩,
 ⟨some 18,Op.load 22 (Operand.tmp 17),none⟩,
 ⟨some 19,Op.call {callee:=Callee.builtin Builtin.len,args:=#[Operand.tmp 18],argTypes:=#[22]},none⟩,
 ⟨some 3,Op.assign (Operand.tmp 16),none⟩,
 ⟨some 4,Op.assign (Operand.tmp 19),none⟩])
 (.seq
 (.seq
 (.region [] false ([]) [
 ⟨some 20,Op.move (Operand.tmp 3),none⟩,
 ⟨some 21,Op.binOp BinOp.gtr 3 (Operand.tmp 20) (Operand.const (Value.int IntKind.i64 4000)) 3,none⟩,
 ⟨some 22,Op.move (Operand.tmp 21),none⟩,
 ⟨some 23,Op.fieldAddr 50 (Operand.tmp 1) 6,some (22,false)⟩,
 ⟨some 24,Op.load 22 (Operand.tmp 23),some (22,false)⟩,
 ⟨some 25,Op.call {callee:=Callee.builtin Builtin.len,args:=#[Operand.tmp 24],argTypes:=#[22]},some (22,false)⟩,
 ⟨some 26,Op.move (Operand.tmp 3),some (22,false)⟩,
 ⟨some 27,Op.binOp BinOp.neq 3 (Operand.tmp 25) (Operand.tmp 26) 3,some (22,false)⟩,
 ⟨some 28,Op.pick (Operand.tmp 22) (Operand.const (Value.bool true)) (Operand.tmp 27),none⟩,
 ⟨some 29,Op.move (Operand.tmp 28),none⟩,
 ⟨some 30,Op.move (Operand.tmp 4),some (29,false)⟩,
 ⟨some 31,Op.binOp BinOp.gtr 3 (Operand.tmp 30) (Operand.const (Value.int IntKind.i64 6000)) 3,some (29,false)⟩,
 ⟨some 32,Op.pick (Operand.tmp 29) (Operand.const (Value.bool true)) (Operand.tmp 31),none⟩,
 ⟨some 33,Op.move (Operand.tmp 32),none⟩,
 ⟨some 34,Op.fieldAddr 50 (Operand.tmp 1) 1,some (33,false)⟩,
 ⟨some 35,Op.load 22 (Operand.tmp 34),some (33,false)⟩,
 ⟨some 36,Op.call {callee:=Callee.builtin Builtin.len,args:=#[Operand.tmp 35],argTypes:=#[22]},some (33,false)⟩,
 ⟨some 37,Op.move (Operand.tmp 4),some (33,false)⟩,
 ⟨some 38,Op.binOp BinOp.neq 3 (Operand.tmp 36) (Operand.tmp 37) 3,some (33,false)⟩,
 ⟨some 39,Op.pick (Operand.tmp 33) (Operand.const (Value.bool true)) (Operand.tmp 38),none⟩,
 ⟨some 40,Op.move (Operand.tmp 39),none⟩,
 ⟨some 41,Op.fieldAddr 50 (Operand.tmp 1) 2,some (40,false)⟩,
 ⟨some 42,Op.load 22 (Operand.tmp 41),some (40,false)⟩,
 ⟨some 43,Op.call {callee:=Callee.builtin Builtin.len,args:=#[Operand.tmp 42],argTypes:=#[22]},some (40,false)⟩,
 ⟨some 44,Op.move (Operand.tmp 4),some (40,false)⟩,
 ⟨some 45,Op.binOp BinOp.add 3 (Operand.tmp 44) (Operand.const (Value.int IntKind.i64 1)) 3,some (40,false)⟩,
 ⟨some 46,Op.binOp BinOp.neq 3 (Operand.tmp 43) (Operand.tmp 45) 3,some (40,false)⟩,
 ⟨some 47,Op.pick (Operand.tmp 40) (Operand.const (Value.bool true)) (Operand.tmp 46),none⟩,
 ⟨some 48,Op.move (Operand.tmp 47),none⟩,
 ⟨some 49,Op.fieldAddr 50 (Operand.tmp 1) 3,some (48,false)⟩,
 ⟨some 50,Op.load 22 (Operand.tmp 49),some (48,false)⟩,
 ⟨some 51,Op.call {callee:=Callee.builtin Builtin.len,args:=#[Operand.tmp 50],argTypes:=#[22]},some (48,false)⟩,
 ⟨some 52,Op.fieldAddr 50 (Operand.tmp 1) 4,some (48,false)⟩,
 ⟨some 53,Op.load 22 (Operand.tmp 52),some (48,false)⟩,
 ⟨some 54,Op.call {callee:=Callee.builtin Builtin.len,args:=#[Operand.tmp 53],argTypes:=#[22]},some (48,false)⟩,
 ⟨some 55,Op.binOp BinOp.neq 3 (Operand.tmp 51) (Operand.tmp 54) 3,some (48,false)⟩,
 ⟨some 56,Op.pick (Operand.tmp 48) (Operand.const (Value.bool true)) (Operand.tmp 55),none⟩,
 ⟨some 57,Op.move (Operand.tmp 56),none⟩,
 ⟨some 58,Op.fieldAddr 50 (Operand.tmp 1) 3,some (57,false)⟩,
 ⟨some 59,Op.load 22 (Operand.tmp 58),some (57,false)⟩,
 ⟨some 60,Op.call {callee:=Callee.builtin Builtin.len,args:=#[Operand.tmp 59],argTypes:=#[22]},some (57,false)⟩,
 ⟨some 61,Op.binOp BinOp.gtr 3 (Operand.tmp 60) (Operand.const (Value.int IntKind.i64 40000)) 3,some (57,false)⟩,
 ⟨some 62,Op.pick (Operand.tmp 57) (Operand.const (Value.bool true)) (Operand.tmp 61),none⟩])
 (.cond (Operand.tmp 62)
 (.seq
 (.region [] false ([]) [
 ⟨some 2,Op.assign (Operand.const (Value.bool false)),none⟩])
 .ret)
 .skip))
 (.seq
 (.seq
 (.region [] false ([]) [
 ⟨some 63,Op.fieldAddr 50 (Operand.tmp 1) 6,none⟩,
 ⟨some 64,Op.load 22 (Operand.tmp 63),none⟩,
 ⟨some 65,Op.call {callee:=Callee.builtin Builtin.len,args:=#[Operand.tmp 64],argTypes:=#[22]},none⟩,
 ⟨some 66,Op.move (Operand.const (Value.int IntKind.i64 0)),none⟩])
 (.block 0
 (.loop
 (.seq
 (.region [] false ([]) [
 ⟨some 67,Op.binOp BinOp.lss 3 (Operand.tmp 66) (Operand.tmp 65) 3,none⟩])
 (.seq
 (.cond (Operand.tmp 67)
 .skip
 (.exit 0))
 (.seq
 (.block 1
 (.seq
 (.region [] false ([]) [
 ⟨some 68,Op.indexAddr 22 (Operand.tmp 64) (Operand.tmp 66),none⟩,
 ⟨some 69,Op.load 2 (Operand.tmp 68),none⟩,
 ⟨some 6,Op.assign (Operand.tmp 69),none⟩])
 (.seq
 (.region [71] false ([]) [
 ⟨some 70,Op.move (Operand.tmp 6),none⟩,
 ⟨some 71,Op.call {callee:=Callee.value (Operand.func 139),args:=#[Operand.tmp 70],argTypes:=#[2]},none⟩,
 ⟨some 72,Op.unOp UnOp.not 4 (Operand.tmp 71),none⟩])
 (.cond (Operand.tmp 72)
 (.seq
 (.region [] false ([]) [
 ⟨some 2,Op.assign (Operand.const (Value.bool false)),none⟩])
 .ret)
 .skip))))
 (.region [] false ([]) [
 ⟨some 73,Op.binOp BinOp.add 3 (Operand.tmp 66) (Operand.const (Value.int IntKind.i64 1)) 3,none⟩,
 ⟨some 66,Op.move (Operand.tmp 73),none⟩])))))))
 (.seq
 (.seq
 (.region [] false ([]) [
 ⟨some 7,Op.assign (Operand.const (Value.int IntKind.i64 0)),none⟩])
 (.block 2
 (.loop
 (.seq
 (.seq
 (.region [] false ([]) [
 ⟨some 74,Op.move (Operand.tmp 7),none⟩,
 ⟨some 75,Op.move (Operand.tmp 4),none⟩,
 ⟨some 76,Op.binOp BinOp.lss 3 (Operand.tmp 74) (Operand.tmp 75) 3,none⟩])
 (.cond (Operand.tmp 76)
 .skip
 (.exit 2)))
 (.seq
 (.block 3
 (.seq
 (.seq
 (.region [] false ([]) [
 ⟨some 79,Op.fieldAddr 50 (Operand.tmp 1) 0,none⟩,
 ⟨some 80,Op.load 22 (Operand.tmp 79),none⟩,
 ⟨some 81,Op.move (Operand.tmp 7),none⟩,
 ⟨some 82,Op.indexAddr 22 (Operand.tmp 80) (Operand.tmp 81),none⟩,
 ⟨some 83,Op.load 2 (Operand.tmp 82),none⟩,
 ⟨some 84,Op.binOp BinOp.lss 2 (Operand.tmp 83) (Operand.const (Value.int IntKind.i64 0)) 2,none⟩,
 ⟨some 85,Op.move (Operand.tmp 84),none⟩,
 ⟨some 86,Op.fieldAddr 50 (Operand.tmp 1) 0,some (85,false)⟩,
 ⟨some 87,Op.load 22 (Operand.tmp 86),some (85,false)⟩,
 ⟨some 88,Op.move (Operand.tmp 7),some (85,false)⟩,
 ⟨some 89,Op.indexAddr 22 (Operand.tmp 87) (Operand.tmp 88),some (85,false)⟩,
 ⟨some 90,Op.load 2 (Operand.tmp 89),some (85,false)⟩,
 ⟨some 91,Op.move (Operand.tmp 3),some (85,false)⟩,
 ⟨some 92,Op.binOp BinOp.geq 2 (Operand.tmp 90) (Operand.tmp 91) 2,some (85,false)⟩,
 ⟨some 93,Op.pick (Operand.tmp 85) (Operand.const (Value.bool true)) (Operand.tmp 92),none⟩,
 ⟨some 94,Op.move (Operand.tmp 93),none⟩,
 ⟨some 95,Op.fieldAddr 50 (Operand.tmp 1) 1,some (94,false)⟩,
 ⟨some 96,Op.load 22 (Operand.tmp 95),some (94,false)⟩,
 ⟨some 97,Op.move (Operand.tmp 7),some (94,false)⟩,
 ⟨some 98,Op.indexAddr 22 (Operand.tmp 96) (Operand.tmp 97),some (94,false)⟩,
 ⟨some 99,Op.load 2 (Operand.tmp 98),some (94,false)⟩,
 ⟨some 100,Op.binOp BinOp.lss 2 (Operand.tmp 99) (Operand.const (Value.int IntKind.i64 0)) 2,some (94,false)⟩,
 ⟨some 101,Op.pick (Operand.tmp 94) (Operand.const (Value.bool true)) (Operand.tmp 100),none⟩,
 ⟨some 102,Op.move (Operand.tmp 101),none⟩,
 ⟨some 103,Op.fieldAddr 50 (Operand.tmp 1) 1,some (102,false)⟩,
 ⟨some 104,Op.load 22 (Operand.tmp 103),some (102,false)⟩,
 ⟨some 105,Op.move (Operand.tmp 7),some (102,false)⟩,
 ⟨some 106,Op.indexAddr 22 (Operand.tmp 104) (Operand.tmp 105),some (102,false)⟩,
 ⟨some 107,Op.load 2 (Operand.tmp 106),some (102,false)⟩,
 ⟨some 108,Op.binOp BinOp.geq 2 (Operand.tmp 107) (Operand.const (Value.int IntKind.i64 2000)) 2,some (102,false)⟩,
 ⟨some 109,Op.pick (Operand.tmp 102) (Operand.const (Value.bool true)) (Operand.tmp 108),none⟩])
 (.cond (Operand.tmp 109)
 (.seq
 (.region [] false ([]) [
 ⟨some 2,Op.assign (Operand.const (Value.bool false)),none⟩])
 .ret)
 .skip))
 (.seq
 (.region [] true ([]) [
 ⟨some 110,Op.move (Operand.tmp 7),none⟩,
 ⟨some 111,Op.binOp BinOp.gtr 3 (Operand.tmp 110) (Operand.const (Value.int IntKind.i64 0)) 3,none⟩,
 ⟨some 112,Op.move (Operand.tmp 111),none⟩,
 ⟨some 113,Op.fieldAddr 50 (Operand.tmp 1) 0,some (112,true)⟩,
 ⟨some 114,Op.load 22 (Operand.tmp 113),some (112,true)⟩,
 ⟨some 115,Op.move (Operand.tmp 7),some (112,true)⟩,
 ⟨some 116,Op.binOp BinOp.sub 3 (Operand.tmp 115) (Operand.const (Value.int IntKind.i64 1)) 3,some (112,true)⟩,
 ⟨some 117,Op.indexAddr 22 (Operand.tmp 114) (Operand.tmp 116),some (112,true)⟩,
 ⟨some 118,Op.load 2 (Operand.tmp 117),some (112,true)⟩,
 ⟨some 119,Op.fieldAddr 50 (Operand.tmp 1) 0,some (112,true)⟩,
 ⟨some 120,Op.load 22 (Operand.tmp 119),some (112,true)⟩,
 ⟨some 121,Op.move (Operand.tmp 7),some (112,true)⟩,
 ⟨some 122,Op.indexAddr 22 (Operand.tmp 120) (Operand.tmp 121),some (112,true)⟩,
 ⟨some 123,Op.load 2 (Operand.tmp 122),some (112,true)⟩,
 ⟨some 124,Op.binOp BinOp.gtr 2 (Operand.tmp 118) (Operand.tmp 123) 2,some (112,true)⟩,
 ⟨some 125,Op.move (Operand.tmp 124),some (112,true)⟩,
 ⟨some 126,Op.fieldAddr 50 (Operand.tmp 1) 0,some (125,false)⟩,
 ⟨some 127,Op.load 22 (Operand.tmp 126),some (125,false)⟩,
 ⟨some 128,Op.move (Operand.tmp 7),some (125,false)⟩,
 ⟨some 129,Op.binOp BinOp.sub 3 (Operand.tmp 128) (Operand.const (Value.int IntKind.i64 1)) 3,some (125,false)⟩,
 ⟨some 130,Op.indexAddr 22 (Operand.tmp 127) (Operand.tmp 129),some (125,false)⟩,
 ⟨some 131,Op.load 2 (Operand.tmp 130),some (125,false)⟩,
 ⟨some 132,Op.fieldAddr 50 (Operand.tmp 1) 0,some (125,false)⟩,
 ⟨some 133,Op.load 22 (Operand.tmp 132),some (125,false)⟩,
 ⟨some 134,Op.move (Operand.tmp 7),some (125,false)⟩,
 ⟨some 135,Op.indexAddr 22 (Operand.tmp 133) (Operand.tmp 134),some (125,false)⟩,
 ⟨some 136,Op.load 2 (Operand.tmp 135),some (125,false)⟩,
 ⟨some 137,Op.binOp BinOp.eql 2 (Operand.tmp 131) (Operand.tmp 136) 2,some (125,false)⟩,
 ⟨some 138,Op.move (Operand.tmp 137),some (125,false)⟩,
 ⟨some 139,Op.fieldAddr 50 (Operand.tmp 1) 1,some (138,true)⟩,
 ⟨some 140,Op.load 22 (Operand.tmp 139),some (138,true)⟩,
 ⟨some 141,Op.move (Operand.tmp 7),some (138,true)⟩,
 ⟨some 142,Op.binOp BinOp.sub 3 (Operand.tmp 141) (Operand.const (Value.int IntKind.i64 1)) 3,some (138,true)⟩,
 ⟨some 143,Op.indexAddr 22 (Operand.tmp 140) (Operand.tmp 142),some (138,true)⟩,
 ⟨some 144,Op.load 2 (Operand.tmp 143),some (138,true)⟩,
 ⟨some 145,Op.fieldAddr 50 (Operand.tmp 1) 1,some (138,true)⟩,
 ⟨some 146,Op.load 22 (Operand.tmp 145),some (138,true)⟩,
 ⟨some 147,Op.move (Operand.tmp 7),some (138,true)⟩,
 ⟨some 148,Op.indexAddr 22 (Operand.tmp 146) (Operand.tmp 147),some (138,true)⟩,
 ⟨some 149,Op.load 2 (Operand.tmp 148),some (138,true)⟩,
 ⟨some 150,Op.binOp BinOp.geq 2 (Operand.tmp 144) (Operand.tmp 149) 2,some (138,true)⟩,
 ⟨some 151,Op.pick (Operand.tmp 138) (Operand.tmp 150) (Operand.const (Value.bool false)),some (125,false)⟩,
 ⟨some 152,Op.pick (Operand.tmp 125) (Operand.const (Value.bool true)) (Operand.tmp 151),some (112,true)⟩,
 ⟨some 153,Op.pick (Operand.tmp 112) (Operand.tmp 152) (Operand.const (Value.bool false)),none⟩])
 (.cond (Operand.tmp 153)
 (.seq
 (.region [] false ([]) [
 ⟨some 2,Op.assign (Operand.const (Value.bool false)),none⟩])
 .ret)
 .skip))))
 (.region [] false ([]) [
 ⟨some 77,Op.move (Operand.tmp 7),none⟩,
 ⟨some 78,Op.binOp BinOp.add 3 (Operand.tmp 77) (Operand.const (Value.int IntKind.i64 1)) 3,none⟩,
 ⟨some 7,Op.assign (Operand.tmp 78),none⟩]))))))
 (.seq
 (.seq
 (.region [] false ([]) [
 ⟨some 154,Op.fieldAddr 50 (Operand.tmp 1) 5,none⟩,
 ⟨some 155,Op.load 22 (Operand.tmp 154),none⟩,
 ⟨some 156,Op.call {callee:=Callee.builtin Builtin.len,args:=#[Operand.tmp 155],argTypes:=#[22]},none⟩,
 ⟨some 157,Op.move (Operand.const (Value.int IntKind.i64 0)),none⟩])
 (.block 4
 (.loop
 (.seq
 (.region [] false ([]) [
 ⟨some 158,Op.binOp BinOp.lss 3 (Operand.tmp 157) (Operand.tmp 156) 3,none⟩])
 (.seq
 (.cond (Operand.tmp 158)
 .skip
 (.exit 4))
 (.seq
 (.block 5
 (.seq
 (.region [] false ([]) [
 ⟨some 159,Op.move (Operand.tmp 157),none⟩,
 ⟨some 160,Op.indexAddr 22 (Operand.tmp 155) (Operand.tmp 157),none⟩,
 ⟨some 161,Op.load 2 (Operand.tmp 160),none⟩,
 ⟨some 8,Op.assign (Operand.tmp 159),none⟩,
 ⟨some 9,Op.assign (Operand.tmp 161),none⟩])
 (.seq
 (.region [] false ([]) [
 ⟨some 162,Op.move (Operand.tmp 9),none⟩,
 ⟨some 163,Op.binOp BinOp.lss 2 (Operand.tmp 162) (Operand.const (Value.int IntKind.i64 0)) 2,none⟩,
 ⟨some 164,Op.move (Operand.tmp 163),none⟩,
 ⟨some 165,Op.move (Operand.tmp 9),some (164,false)⟩,
 ⟨some 166,Op.move (Operand.tmp 4),some (164,false)⟩,
 ⟨some 167,Op.binOp BinOp.geq 2 (Operand.tmp 165) (Operand.tmp 166) 2,some (164,false)⟩,
 ⟨some 168,Op.pick (Operand.tmp 164) (Operand.const (Value.bool true)) (Operand.tmp 167),none⟩,
 ⟨some 169,Op.move (Operand.tmp 168),none⟩,
 ⟨some 170,Op.fieldAddr 50 (Operand.tmp 1) 0,some (169,false)⟩,
 ⟨some 171,Op.load 22 (Operand.tmp 170),some (169,false)⟩,
 ⟨some 172,Op.move (Operand.tmp 9),some (169,false)⟩,
 ⟨some 173,Op.indexAddr 22 (Operand.tmp 171) (Operand.tmp 172),some (169,false)⟩,
 ⟨some 174,Op.load 2 (Operand.tmp 173),some (169,false)⟩,
 ⟨some 175,Op.move (Operand.tmp 8),some (169,false)⟩,
 ⟨some 176,Op.binOp BinOp.neq 2 (Operand.tmp 174) (Operand.tmp 175) 2,some (169,false)⟩,
 ⟨some 177,Op.pick (Operand.tmp 169) (Operand.const (Value.bool true)) (Operand.tmp 176),none⟩])
 (.cond (Operand.tmp 177)
 (.seq
 (.region [] false ([]) [
 ⟨some 2,Op.assign (Operand.const (Value.bool false)),none⟩])
 .ret)
 .skip))))
 (.region [] false ([]) [
 ⟨some 178,Op.binOp BinOp.add 3 (Operand.tmp 157) (Operand.const (Value.int IntKind.i64 1)) 3,none⟩,
 ⟨some 157,Op.move (Operand.tmp 178),none⟩])))))))
 (.seq
 (.seq
 (.region [] true ([]) [
 ⟨some 179,Op.fieldAddr 50 (Operand.tmp 1) 2,none⟩,
 ⟨some 180,Op.load 22 (Operand.tmp 179),none⟩,
 ⟨some 181,Op.indexAddr 22 (Operand.tmp 180) (Operand.const (Value.int IntKind.i64 0)),none⟩,
 ⟨some 182,Op.load 2 (Operand.tmp 181),none⟩,
 ⟨some 183,Op.binOp BinOp.neq 2 (Operand.tmp 182) (Operand.const (Value.int IntKind.i64 0)) 2,none⟩,
 ⟨some 184,Op.move (Operand.tmp 183),none⟩,
 ⟨some 185,Op.fieldAddr 50 (Operand.tmp 1) 2,some (184,false)⟩,
 ⟨some 186,Op.load 22 (Operand.tmp 185),some (184,false)⟩,
 ⟨some 187,Op.move (Operand.tmp 4),some (184,false)⟩,
 ⟨some 188,Op.indexAddr 22 (Operand.tmp 186) (Operand.tmp 187),some (184,false)⟩,
 ⟨some 189,Op.load 2 (Operand.tmp 188),some (184,false)⟩,
 ⟨some 190,Op.fieldAddr 50 (Operand.tmp 1) 3,some (184,false)⟩,
 ⟨some 191,Op.load 22 (Operand.tmp 190),some (184,false)⟩,
 ⟨some 192,Op.call {callee:=Callee.builtin Builtin.len,args:=#[Operand.tmp 191],argTypes:=#[22]},some (184,false)⟩,
 ⟨some 193,Op.binOp BinOp.neq 2 (Operand.tmp 189) (Operand.tmp 192) 2,some (184,false)⟩,
 ⟨some 194,Op.pick (Operand.tmp 184) (Operand.const (Value.bool true)) (Operand.tmp 193),none⟩])
 (.cond (Operand.tmp 194)
 (.seq
 (.region [] false ([]) [
 ⟨some 2,Op.assign (Operand.const (Value.bool false)),none⟩])
 .ret)
 .skip))
 (.seq
 (.seq
 (.region [] false ([]) [
 ⟨some 10,Op.assign (Operand.const (Value.int IntKind.i64 0)),none⟩])
 (.block 6
 (.loop
 (.seq
 (.seq
 (.region [] false ([]) [
 ⟨some 195,Op.move (Operand.tmp 10),none⟩,
 ⟨some 196,Op.move (Operand.tmp 4),none⟩,
 ⟨some 197,Op.binOp BinOp.lss 3 (Operand.tmp 195) (Operand.tmp 196) 3,none⟩])
 (.cond (Operand.tmp 197)
 .skip
 (.exit 6)))
 (.seq
 (.block 7
 (.seq
 (.region [] true ([]) [
 ⟨some 200,Op.fieldAddr 50 (Operand.tmp 1) 2,none⟩,
 ⟨some 201,Op.load 22 (Operand.tmp 200),none⟩,
 ⟨some 202,Op.move (Operand.tmp 10),none⟩,
 ⟨some 203,Op.indexAddr 22 (Operand.tmp 201) (Operand.tmp 202),none⟩,
 ⟨some 204,Op.load 2 (Operand.tmp 203),none⟩,
 ⟨some 205,Op.fieldAddr 50 (Operand.tmp 1) 2,none⟩,
 ⟨some 206,Op.load 22 (Operand.tmp 205),none⟩,
 ⟨some 207,Op.move (Operand.tmp 10),none⟩,
 ⟨some 208,Op.binOp BinOp.add 3 (Operand.tmp 207) (Operand.const (Value.int IntKind.i64 1)) 3,none⟩,
 ⟨some 209,Op.indexAddr 22 (Operand.tmp 206) (Operand.tmp 208),none⟩,
 ⟨some 210,Op.load 2 (Operand.tmp 209),none⟩,
 ⟨some 211,Op.binOp BinOp.gtr 2 (Operand.tmp 204) (Operand.tmp 210) 2,none⟩])
 (.cond (Operand.tmp 211)
 (.seq
 (.region [] false ([]) [
 ⟨some 2,Op.assign (Operand.const (Value.bool false)),none⟩])
 .ret)
 .skip)))
 (.region [] false ([]) [
 ⟨some 198,Op.move (Operand.tmp 10),none⟩,
 ⟨some 199,Op.binOp BinOp.add 3 (Operand.tmp 198) (Operand.const (Value.int IntKind.i64 1)) 3,none⟩,
 ⟨some 10,Op.assign (Operand.tmp 199),none⟩]))))))
 (.seq
 (.seq
 (.region [] false ([]) [
 ⟨some 212,Op.fieldAddr 50 (Operand.tmp 1) 3,none⟩,
 ⟨some 213,Op.load 22 (Operand.tmp 212),none⟩,
 ⟨some 214,Op.call {callee:=Callee.builtin Builtin.len,args:=#[Operand.tmp 213],argTypes:=#[22]},none⟩,
 ⟨some 215,Op.move (Operand.const (Value.int IntKind.i64 0)),none⟩])
 (.block 8
 (.loop
 (.seq
 (.region [] false ([]) [
 ⟨some 216,Op.binOp BinOp.lss 3 (Operand.tmp 215) (Operand.tmp 214) 3,none⟩])
 (.seq
 (.cond (Operand.tmp 216)
 .skip
 (.exit 8))
 (.seq
 (.block 9
 (.seq
 (.region [] false ([]) [
 ⟨some 217,Op.move (Operand.tmp 215),none⟩,
 ⟨some 11,Op.assign (Operand.tmp 217),none⟩])
 (.seq
 (.region [] false ([]) [
 ⟨some 218,Op.fieldAddr 50 (Operand.tmp 1) 3,none⟩,
 ⟨some 219,Op.load 22 (Operand.tmp 218),none⟩,
 ⟨some 220,Op.move (Operand.tmp 11),none⟩,
 ⟨some 221,Op.indexAddr 22 (Operand.tmp 219) (Operand.tmp 220),none⟩,
 ⟨some 222,Op.load 2 (Operand.tmp 221),none⟩,
 ⟨some 223,Op.binOp BinOp.lss 2 (Operand.tmp 222) (Operand.const (Value.int IntKind.i64 0)) 2,none⟩,
 ⟨some 224,Op.move (Operand.tmp 223),none⟩,
 ⟨some 225,Op.fieldAddr 50 (Operand.tmp 1) 3,some (224,false)⟩,
 ⟨some 226,Op.load 22 (Operand.tmp 225),some (224,false)⟩,
 ⟨some 227,Op.move (Operand.tmp 11),some (224,false)⟩,
 ⟨some 228,Op.indexAddr 22 (Operand.tmp 226) (Operand.tmp 227),some (224,false)⟩,
 ⟨some 229,Op.load 2 (Operand.tmp 228),some (224,false)⟩,
 ⟨some 230,Op.move (Operand.tmp 4),some (224,false)⟩,
 ⟨some 231,Op.binOp BinOp.geq 2 (Operand.tmp 229) (Operand.tmp 230) 2,some (224,false)⟩,
 ⟨some 232,Op.pick (Operand.tmp 224) (Operand.const (Value.bool true)) (Operand.tmp 231),none⟩,
 ⟨some 233,Op.move (Operand.tmp 232),none⟩,
 ⟨some 234,Op.fieldAddr 50 (Operand.tmp 1) 4,some (233,false)⟩,
 ⟨some 235,Op.load 22 (Operand.tmp 234),some (233,false)⟩,
 ⟨some 236,Op.move (Operand.tmp 11),some (233,false)⟩,
 ⟨some 237,Op.indexAddr 22 (Operand.tmp 235) (Operand.tmp 236),some (233,false)⟩,
 ⟨some 238,Op.load 2 (Operand.tmp 237),some (233,false)⟩,
 ⟨some 239,Op.binOp BinOp.lss 2 (Operand.tmp 238) (Operand.const (Value.int IntKind.i64 0)) 2,some (233,false)⟩,
 ⟨some 240,Op.pick (Operand.tmp 233) (Operand.const (Value.bool true)) (Operand.tmp 239),none⟩,
 ⟨some 241,Op.move (Operand.tmp 240),none⟩,
 ⟨some 242,Op.fieldAddr 50 (Operand.tmp 1) 4,some (241,false)⟩,
 ⟨some 243,Op.load 22 (Operand.tmp 242),some (241,false)⟩,
 ⟨some 244,Op.move (Operand.tmp 11),some (241,false)⟩,
 ⟨some 245,Op.indexAddr 22 (Operand.tmp 243) (Operand.tmp 244),some (241,false)⟩,
 ⟨some 246,Op.load 2 (Operand.tmp 245),some (241,false)⟩,
 ⟨some 247,Op.binOp BinOp.gtr 2 (Operand.tmp 246) (Operand.const (Value.int IntKind.i64 3145728)) 2,some (241,false)⟩,
 ⟨some 248,Op.pick (Operand.tmp 241) (Operand.const (Value.bool true)) (Operand.tmp 247),none⟩])
 (.cond (Operand.tmp 248)
 (.seq
 (.region [] false ([]) [
 ⟨some 2,Op.assign (Operand.const (Value.bool false)),none⟩])
 .ret)
 .skip))))
 (.region [] false ([]) [
 ⟨some 249,Op.binOp BinOp.add 3 (Operand.tmp 215) (Operand.const (Value.int IntKind.i64 1)) 3,none⟩,
 ⟨some 215,Op.move (Operand.tmp 249),none⟩])))))))
 (.seq
 (.seq
 (.region [] false ([]) [
 ⟨some 12,Op.assign (Operand.const (Value.int IntKind.i64 0)),none⟩])
 (.block 10
 (.loop
 (.seq
 (.seq
 (.region [] false ([]) [
 ⟨some 250,Op.move (Operand.tmp 12),none⟩,
 ⟨some 251,Op.move (Operand.tmp 4),none⟩,
 ⟨some 252,Op.binOp BinOp.lss 3 (Operand.tmp 250) (Operand.tmp 251) 3,none⟩])
 (.cond (Operand.tmp 252)
 .skip
 (.exit 10)))
 (.seq
 (.block 11
 (.seq
 (.region [] false ([]) [
 ⟨some 255,Op.fieldAddr 50 (Operand.tmp 1) 2,none⟩,
 ⟨some 256,Op.load 22 (Operand.tmp 255),none⟩,
 ⟨some 257,Op.move (Operand.tmp 12),none⟩,
 ⟨some 258,Op.indexAddr 22 (Operand.tmp 256) (Operand.tmp 257),none⟩,
 ⟨some 259,Op.load 2 (Operand.tmp 258),none⟩,
 ⟨some 260,Op.binOp BinOp.add 2 (Operand.tmp 259) (Operand.const (Value.int IntKind.i64 1)) 2,none⟩,
 ⟨some 13,Op.assign (Operand.tmp 260),none⟩])
 (.block 12
 (.loop
 (.seq
 (.seq
 (.region [] false ([]) [
 ⟨some 261,Op.move (Operand.tmp 13),none⟩,
 ⟨some 262,Op.fieldAddr 50 (Operand.tmp 1) 2,none⟩,
 ⟨some 263,Op.load 22 (Operand.tmp 262),none⟩,
 ⟨some 264,Op.move (Operand.tmp 12),none⟩,
 ⟨some 265,Op.binOp BinOp.add 3 (Operand.tmp 264) (Operand.const (Value.int IntKind.i64 1)) 3,none⟩,
 ⟨some 266,Op.indexAddr 22 (Operand.tmp 263) (Operand.tmp 265),none⟩,
 ⟨some 267,Op.load 2 (Operand.tmp 266),none⟩,
 ⟨some 268,Op.binOp BinOp.lss 2 (Operand.tmp 261) (Operand.tmp 267) 2,none⟩])
 (.cond (Operand.tmp 268)
 .skip
 (.exit 12)))
 (.seq
 (.block 13
 (.seq
 (.region [] true ([]) [
 ⟨some 271,Op.fieldAddr 50 (Operand.tmp 1) 0,none⟩,
 ⟨some 272,Op.load 22 (Operand.tmp 271),none⟩,
 ⟨some 273,Op.fieldAddr 50 (Operand.tmp 1) 3,none⟩,
 ⟨some 274,Op.load 22 (Operand.tmp 273),none⟩,
 ⟨some 275,Op.move (Operand.tmp 13),none⟩,
 ⟨some 276,Op.binOp BinOp.sub 2 (Operand.tmp 275) (Operand.const (Value.int IntKind.i64 1)) 2,none⟩,
 ⟨some 277,Op.indexAddr 22 (Operand.tmp 274) (Operand.tmp 276),none⟩,
 ⟨some 278,Op.load 2 (Operand.tmp 277),none⟩,
 ⟨some 279,Op.indexAddr 22 (Operand.tmp 272) (Operand.tmp 278),none⟩,
 ⟨some 280,Op.load 2 (Operand.tmp 279),none⟩,
 ⟨some 281,Op.fieldAddr 50 (Operand.tmp 1) 0,none⟩,
 ⟨some 282,Op.load 22 (Operand.tmp 281),none⟩,
 ⟨some 283,Op.fieldAddr 50 (Operand.tmp 1) 3,none⟩,
 ⟨some 284,Op.load 22 (Operand.tmp 283),none⟩,
 ⟨some 285,Op.move (Operand.tmp 13),none⟩,
 ⟨some 286,Op.indexAddr 22 (Operand.tmp 284) (Operand.tmp 285),none⟩,
 ⟨some 287,Op.load 2 (Operand.tmp 286),none⟩,
 ⟨some 288,Op.indexAddr 22 (Operand.tmp 282) (Operand.tmp 287),none⟩,
 ⟨some 289,Op.load 2 (Operand.tmp 288),none⟩,
 ⟨some 290,Op.binOp BinOp.geq 2 (Operand.tmp 280) (Operand.tmp 289) 2,none⟩])
 (.cond (Operand.tmp 290)
 (.seq
 (.region [] false ([]) [
 ⟨some 2,Op.assign (Operand.const (Value.bool false)),none⟩])
 .ret)
 .skip)))
 (.region [] false ([]) [
 ⟨some 269,Op.move (Operand.tmp 13),none⟩,
 ⟨some 270,Op.binOp BinOp.add 2 (Operand.tmp 269) (Operand.const (Value.int IntKind.i64 1)) 2,none⟩,
 ⟨some 13,Op.assign (Operand.tmp 270),none⟩])))))))
 (.region [] false ([]) [
 ⟨some 253,Op.move (Operand.tmp 12),none⟩,
 ⟨some 254,Op.binOp BinOp.add 3 (Operand.tmp 253) (Operand.const (Value.int IntKind.i64 1)) 3,none⟩,
 ⟨some 12,Op.assign (Operand.tmp 254),none⟩]))))))
 (.seq
 (.region [] false ([]) [
 ⟨some 2,Op.assign (Operand.const (Value.bool true)),none⟩])
 .ret)))))))))))
set_option maxHeartbeats 0 in
theorem vgI (g : Gr) (h1 : g.edgeOf.length ≤ 1048576) (h2 : g.stateOf.length ≤ 1048576) (h3 : g.first.length ≤ 1048576) (h4 : g.to.length ≤ 1048576) (h5 : g.cost.length ≤ 1048576) (h6 : g.start.length ≤ 1048576) (h7 : g.weight.length ≤ 1048576) :
    CallsF Try.prog 87 [.agg (encG g)] (.t (.v (.bool (decide (VG g))))) [] := by
  refine callsF_of_wp1 (fn := Try.f87) (k := k87) (fun _ => []) mixed (by kernel_rfl) rfl (by kernel_rfl) (by kernel_rfl) (by kernel_rfl) rfl (by simp [Try.f87]) (by simp [Arg.like]) ?_
  generalize hst : St.enter [.agg (encG g)] = st0
  have t0 : st0.tm 0 = .agg ((encG g) |>.map .t) := by rw [← hst]; rfl
  clear hst
  unfold k87
  simp [encG] at t0
  repeat' (first
   | refine wp1_seq fun K hK => ?_
   | refine M_cons fun K hK => ?_
   | (refine hK _ ?_; clear hK K)
   | (refine hX _ ?_; clear hX hY X Y)
   | (refine hY _ ?_; clear hX hY X Y)
   | refine wp1_block ?_
   | refine wp1_region ?_
   | refine wp1_cond fun X Y hX hY => ?_
   | (refine condK_of (fun c => ?_) (fun c => ?_) <;> (try simp [-List.length_eq_zero_iff] at c))
   | (refine guard1_or (fun c => ?_) (fun c => ?_) <;> (have cc := c) <;> (try simp [-List.length_eq_zero_iff] at cc) <;> (try simp (disch := omega) [t0, c]))
   | simp (maxSteps := 4000000) (disch := omega) [t0])
  all_goals try (simp [Back]; intro h; have e1 := h.l1; have e2 := h.l2; have e3 := h.l3; have e4 := h.l4; have e5 := h.l5; have e6 := h.l6; have e7 := h.l7; omega)
  have l1 : g.start.length ≤ 4000 := by omega
  have l2 : g.weight.length = g.start.length := by omega
  have l3 : g.edgeOf.length ≤ 6000 := by omega
  have l4 : g.stateOf.length = g.edgeOf.length := by omega
  have l5 : g.first.length = g.edgeOf.length + 1 := by omega
  have l6 : g.to.length = g.cost.length := by omega
  have l7 : g.to.length ≤ 40000 := by omega
  have hJ : ∀ s, GI g s → (∀ i : Nat, i < g.weight.length → inR (rd g.weight i)) → K s := by
    rintro s ⟨s1, o, s3, s4⟩ hw
    repeat' (first
     | refine wp1_seq fun K hK => ?_
     | refine M_cons fun K hK => ?_
     | (refine hK _ ?_; clear hK K)
     | refine wp1_block ?_
     | refine wp1_region ?_
     | simp (maxSteps := 4000000) (disch := omega) [s1, o, s3, s4])
    have hJ : ∀ s, GI g s → (∀ i : Nat, i < g.edgeOf.length → VOK g i) → K s := by
      rintro s ⟨s1, o, s3, s4⟩ hv
      repeat' (first
       | refine wp1_seq fun K hK => ?_
       | refine M_cons fun K hK => ?_
       | (refine hK _ ?_; clear hK K)
       | refine wp1_block ?_
       | refine wp1_region ?_
       | simp (maxSteps := 4000000) (disch := omega) [s1, o, s3, s4])
      have hJ : ∀ s, GI g s → (∀ i : Nat, i < g.start.length → SOK g i) → K s := by
        rintro s ⟨s1, o, s3, s4⟩ hs
        repeat' (first
         | refine wp1_seq fun K hK => ?_
         | refine M_cons fun K hK => ?_
         | (refine hK _ ?_; clear hK K)
         | (refine hX _ ?_; clear hX hY X Y)
         | (refine hY _ ?_; clear hX hY X Y)
         | refine wp1_block ?_
         | refine wp1_region ?_
         | refine wp1_cond fun X Y hX hY => ?_
         | (refine condK_of (fun c => ?_) (fun c => ?_) <;> (try simp [-List.length_eq_zero_iff] at c))
         | (refine guard1_or (fun c => ?_) (fun c => ?_) <;> (have cc := c) <;> (try simp [-List.length_eq_zero_iff] at cc) <;> (try simp (disch := omega) [s1, o, s3, s4, c]))
         | simp (maxSteps := 4000000) (disch := omega) [s1, o, s3, s4])
        all_goals try (simp [Back]; intro h; have e1 := h.f0; have e2 := h.fv; omega)
        have f0 : rd g.first 0 = 0 := by omega
        have fv : rd g.first g.edgeOf.length = g.to.length := by omega
        have hJ : ∀ s, GI g s → (∀ i : Nat, i < g.edgeOf.length → rd g.first i ≤ rd g.first ((i : Int) + 1)) → K s := by
          rintro s ⟨s1, o, s3, s4⟩ hf
          repeat' (first
           | refine wp1_seq fun K hK => ?_
           | refine M_cons fun K hK => ?_
           | (refine hK _ ?_; clear hK K)
           | refine wp1_block ?_
           | refine wp1_region ?_
           | simp (maxSteps := 4000000) (disch := omega) [s1, o, s3, s4])
          have hJ : ∀ s, GI g s → (∀ i : Nat, i < g.to.length → TOK g i) → K s := by
            rintro s ⟨s1, o, s3, s4⟩ ht
            repeat' (first
             | refine wp1_seq fun K hK => ?_
             | refine M_cons fun K hK => ?_
             | (refine hK _ ?_; clear hK K)
             | refine wp1_block ?_
             | refine wp1_region ?_
             | simp (maxSteps := 4000000) (disch := omega) [s1, o, s3, s4])
            have hJ : ∀ s, (∀ i : Nat, i < g.edgeOf.length → AOK g i) → K s := by
              intro s ha
              have : VG g := ⟨l1, l2, l3, l4, l5, l6, l7, hw, hv, hs, f0, fv, hf, ht, ha⟩
              repeat' (first
               | refine wp1_seq fun K hK => ?_
               | refine M_cons fun K hK => ?_
               | (refine hK _ ?_; clear hK K)
               | refine wp1_region ?_
               | simp (maxSteps := 4000000) (disch := omega) [this])
              all_goals try (simp [this, Back]; done)
            clear hK
            have hmono := firsts f0 fv hf
            refine wp1_loop (fun n s => ∃ k : Nat, GI g s ∧ s.tm 12 = .t (.v (.int .i64 k)) ∧ k ≤ g.edgeOf.length ∧ n = g.edgeOf.length - k ∧ ∀ i < k, AOK g i) g.edgeOf.length ?_ ?_
            · exact ⟨0, by simp [GI, s1, o, s3, s4]⟩
            · rintro n s ⟨k, ⟨s1, o, s3, s4⟩, s12, hk, rfl, hq⟩ K' hK'
              have b1 := hmono k hk
              have b2 : k < g.edgeOf.length → 0 ≤ rd g.first ((k : Int) + 1) ∧ rd g.first ((k : Int) + 1) ≤ g.to.length := fun h => by have := hmono (k + 1) (by omega); simpa using this
              repeat' (first
               | refine wp1_seq fun K hK => ?_
               | refine M_cons fun K hK => ?_
               | (refine hK _ ?_; clear hK K)
               | (refine hX _ ?_; clear hX hY X Y)
               | (refine hY _ ?_; clear hX hY X Y)
               | refine wp1_block ?_
               | refine wp1_region ?_
               | refine wp1_cond fun X Y hX hY => ?_
               | (refine condK_of (fun c => ?_) (fun c => ?_) <;> (try simp [-List.length_eq_zero_iff] at c))
               | simp (maxSteps := 4000000) (disch := omega) [s1, o, s3, s4, s12])
              · have hk2 : k < g.edgeOf.length := by assumption
                have b2 := b2 hk2
                have hJ2 : ∀ s, GI g s → s.tm 12 = .t (.v (.int .i64 k)) → AOK g k → K s := by
                  rintro s ⟨s1, o, s3, s4⟩ s12 hak
                  repeat' (first
                   | refine M_cons fun K hK => ?_
                   | (refine hK _ ?_; clear hK K)
                   | refine wp1_region ?_
                   | simp (maxSteps := 4000000) (disch := omega) [s1, o, s3, s4, s12])
                  refine hK' (g.edgeOf.length - (k + 1)) _ (by omega) ⟨k + 1, ?_⟩
                  simp [GI, s1, o, s3, s4]
                  exact ⟨by omega, below_succ hq hak⟩
                clear hK
                refine wp1_loop (fun n s => ∃ j : Int, GI g s ∧ s.tm 12 = .t (.v (.int .i64 k)) ∧ s.tm 13 = .t (.v (.int .i64 j)) ∧ rd g.first k < j ∧ j ≤ g.to.length + 1 ∧ n = (g.to.length + 1 - j).toNat ∧ ∀ i : Int, rd g.first k < i → i < j → i < rd g.first ((k : Int) + 1) → rd g.edgeOf (rd g.to (i - 1)) < rd g.edgeOf (rd g.to i)) (g.to.length + 1 - (rd g.first k + 1)).toNat ?_ ?_
                · refine ⟨rd g.first k + 1, ?_⟩
                  simp [GI, s1, o, s3, s4, s12]
                  exact ⟨by omega, by omega, fun i h1 h2 => by omega⟩
                · rintro n s ⟨j, ⟨s1, o, s3, s4⟩, s12, s13, hj1, hj2, rfl, hq2⟩ K'' hK''
                  have b3 : j < rd g.first ((k : Int) + 1) → 0 ≤ rd g.to (j - 1) ∧ rd g.to (j - 1) < g.edgeOf.length ∧ 0 ≤ rd g.to j ∧ rd g.to j < g.edgeOf.length := fun h => by
                    have e1 := ht (j - 1).toNat (by omega)
                    have e2 := ht j.toNat (by omega)
                    unfold TOK at e1 e2
                    rw [Int.toNat_of_nonneg (by omega)] at e1 e2
                    omega
                  repeat' (first
                   | refine wp1_seq fun K hK => ?_
                   | refine M_cons fun K hK => ?_
                   | (refine hK _ ?_; clear hK K)
                   | (refine hX _ ?_; clear hX hY X Y)
                   | (refine hY _ ?_; clear hX hY X Y)
                   | refine wp1_block ?_
                   | refine wp1_region ?_
                   | refine wp1_cond fun X Y hX hY => ?_
                   | (refine condK_of (fun c => ?_) (fun c => ?_) <;> (try simp [-List.length_eq_zero_iff] at c))
                   | simp (maxSteps := 4000000) (disch := omega) [s1, o, s3, s4, s12, s13])
                  all_goals first
                    | (simp [Back]; intro h; have := h.a k hk2 j hj1 (by omega); omega)
                    | (refine hK'' (g.to.length + 1 - (j + 1)).toNat _ (by omega) ⟨j + 1, ?_⟩; simp [GI, s1, o, s3, s4, s12]; exact ⟨by omega, by omega, fun i h1 h2 h3 => (Classical.em (i = j)).elim (fun e => by subst e; omega) (fun e => hq2 i h1 (by omega) h3)⟩)
                    | (refine hJ2 _ (by simp [GI, s1, o, s3, s4]) (by simp [s12]) fun i h1 h2 => hq2 i h1 (by omega) h2)
                    | skip
              · exact hJ _ fun i hi => hq i (by omega)
          clear hK
          refine wp1_loop (fun n s => ∃ k : Nat, GI g s ∧ s.tm 213 = .t (ints g.to) ∧ s.tm 214 = .t (.v (.int .i64 g.to.length)) ∧ s.tm 215 = .t (.v (.int .i64 k)) ∧ k ≤ g.to.length ∧ n = g.to.length - k ∧ ∀ i < k, TOK g i) g.to.length ?_ ?_
          · exact ⟨0, by simp [GI, s1, o, s3, s4]⟩
          · rintro n s ⟨k, ⟨s1, o, s3, s4⟩, s213, s214, s215, hk, rfl, hq⟩ K' hK'
            repeat' (first
             | refine wp1_seq fun K hK => ?_
             | refine M_cons fun K hK => ?_
             | (refine hK _ ?_; clear hK K)
             | (refine hX _ ?_; clear hX hY X Y)
             | (refine hY _ ?_; clear hX hY X Y)
             | refine wp1_block ?_
             | refine wp1_region ?_
             | refine wp1_cond fun X Y hX hY => ?_
             | (refine condK_of (fun c => ?_) (fun c => ?_) <;> (try simp [-List.length_eq_zero_iff] at c))
             | (refine guard1_or (fun c => ?_) (fun c => ?_) <;> (have cc := c) <;> (try simp [-List.length_eq_zero_iff] at cc) <;> (try simp (disch := omega) [s1, o, s3, s4, s213, s214, s215, c]))
             | simp (maxSteps := 4000000) (disch := omega) [s1, o, s3, s4, s213, s214, s215])
            all_goals first
              | (simp [Back]; intro h; have hv := h.t k (by omega); unfold TOK at hv; omega)
              | (refine hK' (g.to.length - (k + 1)) _ (by omega) ⟨k + 1, ?_⟩; simp [GI, s1, o, s3, s4, s213, s214, s215]; exact ⟨by omega, below_succ hq (by unfold TOK; omega)⟩)
              | (refine hJ _ (by simp [GI, s1, o, s3, s4]) fun i hi => hq i (by omega))
              | skip
        clear hK
        refine wp1_loop (fun n s => ∃ k : Nat, GI g s ∧ s.tm 10 = .t (.v (.int .i64 k)) ∧ k ≤ g.edgeOf.length ∧ n = g.edgeOf.length - k ∧ ∀ i < k, rd g.first i ≤ rd g.first ((i : Int) + 1)) g.edgeOf.length ?_ ?_
        · exact ⟨0, by simp [GI, s1, o, s3, s4]⟩
        · rintro n s ⟨k, ⟨s1, o, s3, s4⟩, s10, hk, rfl, hq⟩ K' hK'
          repeat' (first
           | refine wp1_seq fun K hK => ?_
           | refine M_cons fun K hK => ?_
           | (refine hK _ ?_; clear hK K)
           | (refine hX _ ?_; clear hX hY X Y)
           | (refine hY _ ?_; clear hX hY X Y)
           | refine wp1_block ?_
           | refine wp1_region ?_
           | refine wp1_cond fun X Y hX hY => ?_
           | (refine condK_of (fun c => ?_) (fun c => ?_) <;> (try simp [-List.length_eq_zero_iff] at c))
           | simp (maxSteps := 4000000) (disch := omega) [s1, o, s3, s4, s10])
          all_goals first
            | (simp [Back]; intro h; have hv := h.f k (by omega); omega)
            | (refine hK' (g.edgeOf.length - (k + 1)) _ (by omega) ⟨k + 1, ?_⟩; simp [GI, s1, o, s3, s4]; exact ⟨by omega, below_succ hq (by omega)⟩)
            | (refine hJ _ (by simp [GI, s1, o, s3, s4]) fun i hi => hq i (by omega))
            | skip
      clear hK
      refine wp1_loop (fun n s => ∃ k : Nat, GI g s ∧ s.tm 155 = .t (ints g.start) ∧ s.tm 156 = .t (.v (.int .i64 g.start.length)) ∧ s.tm 157 = .t (.v (.int .i64 k)) ∧ k ≤ g.start.length ∧ n = g.start.length - k ∧ ∀ i < k, SOK g i) g.start.length ?_ ?_
      · exact ⟨0, by simp [GI, s1, o, s3, s4]⟩
      · rintro n s ⟨k, ⟨s1, o, s3, s4⟩, s155, s156, s157, hk, rfl, hq⟩ K' hK'
        repeat' (first
         | refine wp1_seq fun K hK => ?_
         | refine M_cons fun K hK => ?_
         | (refine hK _ ?_; clear hK K)
         | (refine hX _ ?_; clear hX hY X Y)
         | (refine hY _ ?_; clear hX hY X Y)
         | refine wp1_block ?_
         | refine wp1_region ?_
         | refine wp1_cond fun X Y hX hY => ?_
         | (refine condK_of (fun c => ?_) (fun c => ?_) <;> (try simp [-List.length_eq_zero_iff] at c))
         | (refine guard1_or (fun c => ?_) (fun c => ?_) <;> (have cc := c) <;> (try simp [-List.length_eq_zero_iff] at cc) <;> (try simp (disch := omega) [s1, o, s3, s4, s155, s156, s157, c]))
         | simp (maxSteps := 4000000) (disch := omega) [s1, o, s3, s4, s155, s156, s157])
        all_goals first
          | (simp [Back]; intro h; have hv := h.s k (by omega); unfold SOK at hv; omega)
          | (refine hK' (g.start.length - (k + 1)) _ (by omega) ⟨k + 1, ?_⟩; simp [GI, s1, o, s3, s4, s155, s156, s157]; exact ⟨by omega, below_succ hq (by unfold SOK; omega)⟩)
          | (refine hJ _ (by simp [GI, s1, o, s3, s4]) fun i hi => hq i (by omega))
          | skip
    clear hK
    refine wp1_loop (fun n s => ∃ k : Nat, GI g s ∧ s.tm 7 = .t (.v (.int .i64 k)) ∧ k ≤ g.edgeOf.length ∧ n = g.edgeOf.length - k ∧ ∀ i < k, VOK g i) g.edgeOf.length ?_ ?_
    · exact ⟨0, by simp [GI, s1, o, s3, s4]⟩
    · rintro n s ⟨k, ⟨s1, o, s3, s4⟩, s7, hk, rfl, hv⟩ K' hK'
      repeat' (first
       | refine wp1_seq fun K hK => ?_
       | refine M_cons fun K hK => ?_
       | (refine hK _ ?_; clear hK K)
       | (refine hX _ ?_; clear hX hY X Y)
       | (refine hY _ ?_; clear hX hY X Y)
       | refine wp1_block ?_
       | refine wp1_region ?_
       | refine wp1_cond fun X Y hX hY => ?_
       | (refine condK_of (fun c => ?_) (fun c => ?_) <;> (try simp [-List.length_eq_zero_iff] at c))
       | (refine guard1_or (fun c => ?_) (fun c => ?_) <;> (have cc := c) <;> (try simp [-List.length_eq_zero_iff] at cc) <;> (try simp (disch := omega) [s1, o, s3, s4, s7, c]))
       | simp (maxSteps := 4000000) (disch := omega) [s1, o, s3, s4, s7])
      all_goals first
        | (simp [Back]; intro h; have hv := h.v k (by omega); unfold VOK at hv; omega)
        | (refine hK' (g.edgeOf.length - (k + 1)) _ (by omega) ⟨k + 1, ?_⟩; simp [GI, s1, o, s3, s4]; exact ⟨by omega, below_succ hv (by unfold VOK; omega)⟩)
        | (refine hJ _ (by simp [GI, s1, o, s3, s4]) fun i hi => hv i (by omega))
        | skip
  clear hK
  refine wp1_loop (fun n s => ∃ k : Nat, GI g s ∧ s.tm 64 = .t (ints g.weight) ∧ s.tm 65 = .t (.v (.int .i64 g.weight.length)) ∧ s.tm 66 = .t (.v (.int .i64 k)) ∧ k ≤ g.weight.length ∧ n = g.weight.length - k ∧ ∀ i < k, inR (rd g.weight i)) g.weight.length ?_ ?_
  · exact ⟨0, by simp [GI]⟩
  · rintro n s ⟨k, ⟨s1, o, s3, s4⟩, s64, s65, s66, hk, rfl, hw⟩ K' hK'
    repeat' (first
     | refine wp1_seq fun K hK => ?_
     | refine M_cons fun K hK => ?_
     | (refine hK _ ?_; clear hK K)
     | (refine hX _ ?_; clear hX hY X Y)
     | (refine hY _ ?_; clear hX hY X Y)
     | refine wp1_block ?_
     | refine wp1_region ?_
     | refine wp1_cond fun X Y hX hY => ?_
     | (refine condK_of (fun c => ?_) (fun c => ?_) <;> (try simp [-List.length_eq_zero_iff] at c))
     | (refine callT_fl (inRange_c _) (by simp [St.args, St.arg, s1, o, s3, s4, s64, s65, s66] <;> first | rfl | ((repeat' first | rfl | apply And.intro); first | done | fail)) ?_)
     | simp (maxSteps := 4000000) (disch := omega) [s1, o, s3, s4, s64, s65, s66])
    · simp [Back]; intro h; exact c (h.w k (by omega))
    · refine hK' (g.weight.length - (k + 1)) _ (by omega) ⟨k + 1, ?_⟩
      simp [GI, s1, o, s3, s4, s64, s65]
      exact ⟨by omega, below_succ hw c⟩
    · refine hJ _ (by simp [GI, s1, o, s3, s4]) fun i hi => hw i (by omega)
end Cal

set_option linter.unusedSimpArgs false
set_option linter.unusedVariables false
namespace Cal
open Go Go.Proofs
set_option maxRecDepth 100000
/-- The code of laws.szInt64S. -/
def k59 : Code1 :=
 (.seq
 (.region [] false ([]) [
 ⟨some 4,Op.assign (Operand.const (Value.int IntKind.i64 0)),none⟩])
 (.seq
 (.region [] false ([]) [
 ⟨some 5,Op.move (Operand.tmp 1),none⟩,
 ⟨some 6,Op.move (Operand.tmp 0),none⟩,
 ⟨some 7,Op.call {callee:=Callee.builtin Builtin.len,args:=#[Operand.tmp 6],argTypes:=#[22]},none⟩,
 ⟨some 8,Op.binOp BinOp.sub 3 (Operand.tmp 5) (Operand.tmp 7) 3,none⟩,
 ⟨some 1,Op.assign (Operand.tmp 8),none⟩])
 (.seq
 (.seq
 (.region [] false ([]) [
 ⟨some 9,Op.move (Operand.tmp 1),none⟩,
 ⟨some 10,Op.binOp BinOp.lss 3 (Operand.tmp 9) (Operand.const (Value.int IntKind.i64 0)) 3,none⟩])
 (.cond (Operand.tmp 10)
 (.seq
 (.region [] false ([]) [
 ⟨some 4,Op.assign (Operand.const (Value.int IntKind.i64 (-1))),none⟩])
 .ret)
 .skip))
 (.seq
 (.region [] false ([]) [
 ⟨some 11,Op.move (Operand.tmp 1),none⟩,
 ⟨some 4,Op.assign (Operand.tmp 11),none⟩])
 .ret))))
theorem szI_ok (l : List Int) (left : Int) (hl : l.length ≤ left) (h1 : 0 ≤ left) (h2 : left < 1152921504606846976) :
    CallsF Try.prog 59 [.val (ints l), .val (.v (.int .i64 left))] (.t (.v (.int .i64 (left - l.length)))) [] := by
  refine callsF_of_wp1 (fn := Try.f59) (k := k59) (fun _ => []) mixed (by kernel_rfl) rfl (by kernel_rfl) (by kernel_rfl) (by kernel_rfl) rfl (by simp [Try.f59]) (by simp [Arg.like]) ?_
  generalize hst : St.enter [.val (ints l), .val (.v (.int .i64 left))] = st0
  have t0 : st0.tm 0 = .t (ints l) := by rw [← hst]; rfl
  have t1 : st0.tm 1 = .t (.v (.int .i64 left)) := by rw [← hst]; rfl
  clear hst
  unfold k59
  repeat' (first
   | refine wp1_seq fun K hK => ?_
   | refine M_cons fun K hK => ?_
   | (refine hK _ ?_; clear hK K)
   | (refine hX _ ?_; clear hX hY X Y)
   | (refine hY _ ?_; clear hX hY X Y)
   | refine wp1_region ?_
   | refine wp1_cond fun X Y hX hY => ?_
   | (refine condK_of (fun c => ?_) (fun c => ?_) <;> (try simp [-List.length_eq_zero_iff] at c))
   | simp (maxSteps := 4000000) (disch := omega) [t0, t1])
  all_goals try (simp [t0, t1, Back]; done)
  · omega
theorem szI_no (l : List Int) (left : Int) (hl : left < l.length) (h1 : 0 ≤ left) (h2 : l.length ≤ 9223372036854775807) :
    CallsF Try.prog 59 [.val (ints l), .val (.v (.int .i64 left))] (.t (.v (.int .i64 (-1)))) [] := by
  refine callsF_of_wp1 (fn := Try.f59) (k := k59) (fun _ => []) mixed (by kernel_rfl) rfl (by kernel_rfl) (by kernel_rfl) (by kernel_rfl) rfl (by simp [Try.f59]) (by simp [Arg.like]) ?_
  generalize hst : St.enter [.val (ints l), .val (.v (.int .i64 left))] = st0
  have t0 : st0.tm 0 = .t (ints l) := by rw [← hst]; rfl
  have t1 : st0.tm 1 = .t (.v (.int .i64 left)) := by rw [← hst]; rfl
  clear hst
  unfold k59
  repeat' (first
   | refine wp1_seq fun K hK => ?_
   | refine M_cons fun K hK => ?_
   | (refine hK _ ?_; clear hK K)
   | (refine hX _ ?_; clear hX hY X Y)
   | (refine hY _ ?_; clear hX hY X Y)
   | refine wp1_region ?_
   | refine wp1_cond fun X Y hX hY => ?_
   | (refine condK_of (fun c => ?_) (fun c => ?_) <;> (try simp [-List.length_eq_zero_iff] at c))
   | simp (maxSteps := 4000000) (disch := omega) [t0, t1])
  all_goals try (simp [t0, t1, Back]; done)
  · omega
/-- The code of laws.toInt64S. -/
def k39 : Code1 :=
 (.seq
 (.region [] false ([]) [
 ⟨some 2,Op.assign (Operand.const (Value.slice none 0 0)),none⟩])
 (.seq
 (.region [7] false ([]) [
 ⟨some 5,Op.move (Operand.tmp 0),none⟩,
 ⟨some 6,Op.call {callee:=Callee.builtin Builtin.len,args:=#[Operand.tmp 5],argTypes:=#[22]},none⟩,
 ⟨some 7,Op.makeSlice 22 (Operand.tmp 6) (Operand.tmp 6),none⟩,
 ⟨some 3,Op.assign (Operand.tmp 7),none⟩])
 (.seq
 (.seq
 (.region [] false ([]) [
 ⟨some 4,Op.assign (Operand.const (Value.int IntKind.i64 0)),none⟩])
 (.block 0
 (.loop
 (.seq
 (.seq
 (.region [] false ([]) [
 ⟨some 8,Op.move (Operand.tmp 4),none⟩,
 ⟨some 9,Op.move (Operand.tmp 0),none⟩,
 ⟨some 10,Op.call {callee:=Callee.builtin Builtin.len,args:=#[Operand.tmp 9],argTypes:=#[22]},none⟩,
 ⟨some 11,Op.binOp BinOp.lss 3 (Operand.tmp 8) (Operand.tmp 10) 3,none⟩])
 (.cond (Operand.tmp 11)
 .skip
 (.exit 0)))
 (.seq
 (.block 1
 (.region [] false ([]) [
 ⟨some 14,Op.move (Operand.tmp 3),none⟩,
 ⟨some 15,Op.move (Operand.tmp 4),none⟩,
 ⟨some 16,Op.move (Operand.tmp 0),none⟩,
 ⟨some 17,Op.move (Operand.tmp 4),none⟩,
 ⟨some 18,Op.indexAddr 22 (Operand.tmp 16) (Operand.tmp 17),none⟩,
 ⟨some 19,Op.load 2 (Operand.tmp 18),none⟩,
 ⟨some 20,Op.indexAddr 22 (Operand.tmp 14) (Operand.tmp 15),none⟩,
 ⟨none,Op.store 2 (Operand.tmp 20) (Operand.tmp 19),none⟩]))
 (.region [] false ([]) [
 ⟨some 12,Op.move (Operand.tmp 4),none⟩,
 ⟨some 13,Op.binOp BinOp.add 3 (Operand.tmp 12) (Operand.const (Value.int IntKind.i64 1)) 3,none⟩,
 ⟨some 4,Op.assign (Operand.tmp 13),none⟩]))))))
 (.seq
 (.region [] false ([]) [
 ⟨some 21,Op.move (Operand.tmp 3),none⟩,
 ⟨some 2,Op.assign (Operand.tmp 21),none⟩])
 .ret))))
theorem toI (l : List Int) (hl : l.length ≤ 1048576) :
    CallsF Try.prog 39 [.val (ints l)] (.own 1 (intRow l)) [] := by
  refine callsF_of_wp1 (fn := Try.f39) (k := k39) (fun _ => []) mixed (by kernel_rfl) rfl (by kernel_rfl) (by kernel_rfl) (by kernel_rfl) rfl (by simp [Try.f39]) (by simp [Arg.like]) ?_
  generalize hst : St.enter [.val (ints l)] = st0
  have t0 : st0.tm 0 = .t (ints l) := by rw [← hst]; rfl
  clear hst
  unfold k39
  repeat' (first
   | refine wp1_seq fun K hK => ?_
   | refine M_cons fun K hK => ?_
   | (refine hK _ ?_; clear hK K)
   | refine wp1_block ?_
   | refine wp1_region ?_
   | simp (maxSteps := 4000000) (disch := omega) [t0])
  have hJ : ∀ s : St, s.tm 3 = .row (7, 0) 1 0 l.length → s.ob (7, 0) = some (.row 1 (intRow l)) → K s := by
    intro s s3 o
    repeat' (first
     | refine wp1_seq fun K hK => ?_
     | refine M_cons fun K hK => ?_
     | (refine hK _ ?_; clear hK K)
     | refine wp1_region ?_
     | simp (maxSteps := 4000000) (disch := omega) [s3, o])
    all_goals try (simp [s3, o, Back]; done)
  clear hK
  refine wp1_loop (fun n s => ∃ (k : Nat) (xs : List Int), s.tm 0 = .t (ints l) ∧ s.tm 3 = .row (7, 0) 1 0 l.length ∧ s.tm 4 = .t (.v (.int .i64 k)) ∧ s.ob (7, 0) = some (.row 1 (intRow xs)) ∧ xs.length = l.length ∧ k ≤ l.length ∧ n = l.length - k ∧ ∀ i < k, rd xs i = rd l i) l.length ?_ ?_
  · refine ⟨0, List.replicate l.length 0, ?_⟩
    simp [t0]
  · rintro n s ⟨k, xs, s0, s3, s4, o, hc, hk, rfl, heq⟩ K' hK'
    repeat' (first
     | refine wp1_seq fun K hK => ?_
     | refine M_cons fun K hK => ?_
     | (refine hK _ ?_; clear hK K)
     | (refine hX _ ?_; clear hX hY X Y)
     | (refine hY _ ?_; clear hX hY X Y)
     | refine wp1_block ?_
     | refine wp1_region ?_
     | refine wp1_cond fun X Y hX hY => ?_
     | (refine condK_of (fun c => ?_) (fun c => ?_) <;> (try simp [-List.length_eq_zero_iff] at c))
     | simp (maxSteps := 4000000) (disch := omega) [s0, s3, s4, o, hc])
    · refine hK' (l.length - (k + 1)) _ (by omega) ⟨k + 1, xs.set k (rd l k), ?_⟩
      simp [s0, s3, s4, hc]
      exact ⟨by omega, below_succ (p := fun i : Nat => rd (xs.set k (rd l k)) i = rd l i) (fun i hi => by rw [rd_set_ne (by omega)]; exact heq i hi) (rd_set_eq (by omega))⟩
    · refine hJ _ (by simp [s3]) ?_
      simp [o]
      rw [eq_of_rd hc fun i hi => heq i (by omega)]
end Cal

set_option linter.unusedSimpArgs false
set_option linter.unusedVariables false
namespace Cal
open Go Go.Proofs
set_option maxRecDepth 100000
/-- All lists of a graph are small enough. -/
def smallG (g : Gr) : Prop := g.edgeOf.length ≤ 9223372036854775807 ∧ g.stateOf.length ≤ 9223372036854775807 ∧ g.first.length ≤ 9223372036854775807 ∧ g.to.length ≤ 9223372036854775807 ∧ g.cost.length ≤ 9223372036854775807 ∧ g.start.length ≤ 9223372036854775807 ∧ g.weight.length ≤ 9223372036854775807
def sumG (g : Gr) : Int := g.edgeOf.length + g.stateOf.length + g.first.length + g.to.length + g.cost.length + g.start.length + g.weight.length
/-- The code of laws.szGraph. -/
def k20 : Code1 :=
 (.seq
 (.region [2] false ([]) [
 ⟨some 2,Op.box 45 (Operand.tmp 0),none⟩,
 ⟨some 4,Op.assign (Operand.const (Value.int IntKind.i64 0)),none⟩])
 (.seq
 (.region [8] false ([]) [
 ⟨some 5,Op.fieldAddr 45 (Operand.tmp 2) 0,none⟩,
 ⟨some 6,Op.load 22 (Operand.tmp 5),none⟩,
 ⟨some 7,Op.move (Operand.tmp 1),none⟩,
 ⟨some 8,Op.call {callee:=Callee.value (Operand.func 59),args:=#[Operand.tmp 6,Operand.tmp 7],argTypes:=#[22,3]},none⟩,
 ⟨some 1,Op.assign (Operand.tmp 8),none⟩])
 (.seq
 (.seq
 (.region [] false ([]) [
 ⟨some 9,Op.move (Operand.tmp 1),none⟩,
 ⟨some 10,Op.binOp BinOp.lss 3 (Operand.tmp 9) (Operand.const (Value.int IntKind.i64 0)) 3,none⟩])
 (.cond (Operand.tmp 10)
 (.seq
 (.region [] false ([]) [
 ⟨some 4,Op.assign (Operand.const (Value.int IntKind.i64 (-1))),none⟩])
 .ret)
 .skip))
 (.seq
 (.region [14] false ([]) [
 ⟨some 11,Op.fieldAddr 45 (Operand.tmp 2) 1,none⟩,
 ⟨some 12,Op.load 22 (Operand.tmp 11),none⟩,
 ⟨some 13,Op.move (Operand.tmp 1),none⟩,
 ⟨some 14,Op.call {callee:=Callee.value (Operand.func 59),args:=#[Operand.tmp 12,Operand.tmp 13],argTypes:=#[22,3]},none⟩,
 ⟨some 1,Op.assign (Operand.tmp 14),none⟩])
 (.seq
 (.seq
 (.region [] false ([]) [
 ⟨some 15,Op.move (Operand.tmp 1),none⟩,
 ⟨some 16,Op.binOp BinOp.lss 3 (Operand.tmp 15) (Operand.const (Value.int IntKind.i64 0)) 3,none⟩])
 (.cond (Operand.tmp 16)
 (.seq
 (.region [] false ([]) [
 ⟨some 4,Op.assign (Operand.const (Value.int IntKind.i64 (-1))),none⟩])
 .ret)
 .skip))
 (.seq
 (.region [20] false ([]) [
 ⟨some 17,Op.fieldAddr 45 (Operand.tmp 2) 2,none⟩,
 ⟨some 18,Op.load 22 (Operand.tmp 17),none⟩,
 ⟨some 19,Op.move (Operand.tmp 1),none⟩,
 ⟨some 20,Op.call {callee:=Callee.value (Operand.func 59),args:=#[Operand.tmp 18,Operand.tmp 19],argTypes:=#[22,3]},none⟩,
 ⟨some 1,Op.assign (Operand.tmp 20),none⟩])
 (.seq
 (.seq
 (.region [] false ([]) [
 ⟨some 21,Op.move (Operand.tmp 1),none⟩,
 ⟨some 22,Op.binOp BinOp.lss 3 (Operand.tmp 21) (Operand.const (Value.int IntKind.i64 0)) 3,none⟩])
 (.cond (Operand.tmp 22)
 (.seq
 (.region [] false ([]) [
 ⟨some 4,Op.assign (Operand.const (Value.int IntKind.i64 (-1))),none⟩])
 .ret)
 .skip))
 (.seq
 (.region [26] false ([]) [
 ⟨some 23,Op.fieldAddr 45 (Operand.tmp 2) 3,none⟩,
 ⟨some 24,Op.load 22 (Operand.tmp 23),none⟩,
 ⟨some 25,Op.move (Operand.tmp 1),none⟩,
 ⟨some 26,Op.call {callee:=Callee.value (Operand.func 59),args:=#[Operand.tmp 24,Operand.tmp 25],argTypes:=#[22,3]},none⟩,
 ⟨some 1,Op.assign (Operand.tmp 26),none⟩])
 (.seq
 (.seq
 (.region [] false ([]) [
 ⟨some 27,Op.move (Operand.tmp 1),none⟩,
 ⟨some 28,Op.binOp BinOp.lss 3 (Operand.tmp 27) (Operand.const (Value.int IntKind.i64 0)) 3,none⟩])
 (.cond (Operand.tmp 28)
 (.seq
 (.region [] false ([]) [
 ⟨some 4,Op.assign (Operand.const (Value.int IntKind.i64 (-1))),none⟩])
 .ret)
 .skip))
 (.seq
 (.region [32] false ([]) [
 ⟨some 29,Op.fieldAddr 45 (Operand.tmp 2) 4,none⟩,
 ⟨some 30,Op.load 22 (Operand.tmp 29),none⟩,
 ⟨some 31,Op.move (Operand.tmp 1),none⟩,
 ⟨some 32,Op.call {callee:=Callee.value (Operand.func 59),args:=#[Operand.tmp 30,Operand.tmp 31],argTypes:=#[22,3]},none⟩,
 ⟨some 1,Op.assign (Operand.tmp 32),none⟩])
 (.seq
 (.seq
 (.region [] false ([]) [
 ⟨some 33,Op.move (Operand.tmp 1),none⟩,
 ⟨some 34,Op.binOp BinOp.lss 3 (Operand.tmp 33) (Operand.const (Value.int IntKind.i64 0)) 3,none⟩])
 (.cond (Operand.tmp 34)
 (.seq
 (.region [] false ([]) [
 ⟨some 4,Op.assign (Operand.const (Value.int IntKind.i64 (-1))),none⟩])
 .ret)
 .skip))
 (.seq
 (.region [38] false ([]) [
 ⟨some 35,Op.fieldAddr 45 (Operand.tmp 2) 5,none⟩,
 ⟨some 36,Op.load 22 (Operand.tmp 35),none⟩,
 ⟨some 37,Op.move (Operand.tmp 1),none⟩,
 ⟨some 38,Op.call {callee:=Callee.value (Operand.func 59),args:=#[Operand.tmp 36,Operand.tmp 37],argTypes:=#[22,3]},none⟩,
 ⟨some 1,Op.assign (Operand.tmp 38),none⟩])
 (.seq
 (.seq
 (.region [] false ([]) [
 ⟨some 39,Op.move (Operand.tmp 1),none⟩,
 ⟨some 40,Op.binOp BinOp.lss 3 (Operand.tmp 39) (Operand.const (Value.int IntKind.i64 0)) 3,none⟩])
 (.cond (Operand.tmp 40)
 (.seq
 (.region [] false ([]) [
 ⟨some 4,Op.assign (Operand.const (Value.int IntKind.i64 (-1))),none⟩])
 .ret)
 .skip))
 (.seq
 (.region [44] false ([]) [
 ⟨some 41,Op.fieldAddr 45 (Operand.tmp 2) 6,none⟩,
 ⟨some 42,Op.load 22 (Operand.tmp 41),none⟩,
 ⟨some 43,Op.move (Operand.tmp 1),none⟩,
 ⟨some 44,Op.call {callee:=Callee.value (Operand.func 59),args:=#[Operand.tmp 42,Operand.tmp 43],argTypes:=#[22,3]},none⟩,
 ⟨some 1,Op.assign (Operand.tmp 44),none⟩])
 (.seq
 (.seq
 (.region [] false ([]) [
 ⟨some 45,Op.move (Operand.tmp 1),none⟩,
 ⟨some 46,Op.binOp BinOp.lss 3 (Operand.tmp 45) (Operand.const (Value.int IntKind.i64 0)) 3,none⟩])
 (.cond (Operand.tmp 46)
 (.seq
 (.region [] false ([]) [
 ⟨some 4,Op.assign (Operand.const (Value.int IntKind.i64 (-1))),none⟩])
 .ret)
 .skip))
 (.seq
 (.region [] false ([]) [
 ⟨some 47,Op.move (Operand.tmp 1),none⟩,
 ⟨some 4,Op.assign (Operand.tmp 47),none⟩])
 .ret))))))))))))))))
set_option maxHeartbeats 0 in
theorem szG (g : Gr) (left : Int) (hg : smallG g) (h1 : 0 ≤ left) (h2 : left < 1152921504606846976) :
    CallsF Try.prog 20 [.agg (encG g), .val (.v (.int .i64 left))] (.t (.v (.int .i64 (if left < sumG g then -1 else left - sumG g)))) [] := by
  obtain ⟨g1, g2, g3, g4, g5, g6, g7⟩ := hg
  refine callsF_of_wp1 (fn := Try.f20) (k := k20) (fun _ => []) mixed (by kernel_rfl) rfl (by kernel_rfl) (by kernel_rfl) (by kernel_rfl) rfl (by simp [Try.f20]) (by simp [Arg.like]) ?_
  generalize hst : St.enter [.agg (encG g), .val (.v (.int .i64 left))] = st0
  have t0 : st0.tm 0 = .agg ((encG g) |>.map .t) := by rw [← hst]; rfl
  have t1 : st0.tm 1 = .t (.v (.int .i64 left)) := by rw [← hst]; rfl
  clear hst
  unfold k20
  simp [encG] at t0
  have hd : ((0 : Int) ≤ left ∧ left < (0 : Int) + g.edgeOf.length) ∨ ((0 : Int) + g.edgeOf.length ≤ left ∧ left < (0 : Int) + g.edgeOf.length + g.stateOf.length) ∨ ((0 : Int) + g.edgeOf.length + g.stateOf.length ≤ left ∧ left < (0 : Int) + g.edgeOf.length + g.stateOf.length + g.first.length) ∨ ((0 : Int) + g.edgeOf.length + g.stateOf.length + g.first.length ≤ left ∧ left < (0 : Int) + g.edgeOf.length + g.stateOf.length + g.first.length + g.to.length) ∨ ((0 : Int) + g.edgeOf.length + g.stateOf.length + g.first.length + g.to.length ≤ left ∧ left < (0 : Int) + g.edgeOf.length + g.stateOf.length + g.first.length + g.to.length + g.cost.length) ∨ ((0 : Int) + g.edgeOf.length + g.stateOf.length + g.first.length + g.to.length + g.cost.length ≤ left ∧ left < (0 : Int) + g.edgeOf.length + g.stateOf.length + g.first.length + g.to.length + g.cost.length + g.start.length) ∨ ((0 : Int) + g.edgeOf.length + g.stateOf.length + g.first.length + g.to.length + g.cost.length + g.start.length ≤ left ∧ left < (0 : Int) + g.edgeOf.length + g.stateOf.length + g.first.length + g.to.length + g.cost.length + g.start.length + g.weight.length) ∨ ((0 : Int) + g.edgeOf.length + g.stateOf.length + g.first.length + g.to.length + g.cost.length + g.start.length + g.weight.length ≤ left) := by omega
  rcases hd with e | e | e | e | e | e | e | e
  all_goals
    repeat' (first
     | refine wp1_seq fun K hK => ?_
     | refine M_cons fun K hK => ?_
     | (refine hK _ ?_; clear hK K)
     | (refine hX _ ?_; clear hX hY X Y)
     | (refine hY _ ?_; clear hX hY X Y)
     | refine wp1_region ?_
     | refine wp1_cond fun X Y hX hY => ?_
     | (refine condK_of (fun c => ?_) (fun c => ?_) <;> (try simp [-List.length_eq_zero_iff] at c))
     | (refine callT_fl (szI_ok _ _ ?_ ?_ ?_) (by simp [St.args, St.arg, t0, t1] <;> first | rfl | ((repeat' first | rfl | apply And.intro); first | done | fail)) ?_; omega; omega; omega)
     | (refine callT_fl (szI_no _ _ ?_ ?_ ?_) (by simp [St.args, St.arg, t0, t1] <;> first | rfl | ((repeat' first | rfl | apply And.intro); first | done | fail)) ?_; omega; omega; omega)
     | simp (maxSteps := 4000000) (disch := omega) [t0, t1])
  all_goals first
    | (have hs : left < sumG g := by (unfold sumG; omega)
       simp [Back, hs]; done)
    | (have hs : ¬ left < sumG g := by (unfold sumG; omega)
       simp [Back, hs]
       unfold sumG
       omega)
def rvG (g : Gr) : List RV := [.own 1 (intRow g.edgeOf), .own 1 (intRow g.stateOf), .own 1 (intRow g.first), .own 1 (intRow g.to), .own 1 (intRow g.cost), .own 1 (intRow g.start), .own 1 (intRow g.weight)]
/-- The code of laws.toGraph. -/
def k22 : Code1 :=
 (.seq
 (.region [1,2] false ([]) [
 ⟨some 1,Op.box 45 (Operand.tmp 0),none⟩,
 ⟨some 2,Op.alloc 50,none⟩])
 (.seq
 (.region [3] false ([]) [
 ⟨some 3,Op.alloc 50,none⟩])
 (.seq
 (.region [6] false ([]) [
 ⟨some 4,Op.fieldAddr 45 (Operand.tmp 1) 0,none⟩,
 ⟨some 5,Op.load 22 (Operand.tmp 4),none⟩,
 ⟨some 6,Op.call {callee:=Callee.value (Operand.func 39),args:=#[Operand.tmp 5],argTypes:=#[22]},none⟩,
 ⟨some 7,Op.fieldAddr 50 (Operand.tmp 3) 0,none⟩,
 ⟨none,Op.store 22 (Operand.tmp 7) (Operand.tmp 6),none⟩])
 (.seq
 (.region [10] false ([]) [
 ⟨some 8,Op.fieldAddr 45 (Operand.tmp 1) 1,none⟩,
 ⟨some 9,Op.load 22 (Operand.tmp 8),none⟩,
 ⟨some 10,Op.call {callee:=Callee.value (Operand.func 39),args:=#[Operand.tmp 9],argTypes:=#[22]},none⟩,
 ⟨some 11,Op.fieldAddr 50 (Operand.tmp 3) 1,none⟩,
 ⟨none,Op.store 22 (Operand.tmp 11) (Operand.tmp 10),none⟩])
 (.seq
 (.region [14] false ([]) [
 ⟨some 12,Op.fieldAddr 45 (Operand.tmp 1) 2,none⟩,
 ⟨some 13,Op.load 22 (Operand.tmp 12),none⟩,
 ⟨some 14,Op.call {callee:=Callee.value (Operand.func 39),args:=#[Operand.tmp 13],argTypes:=#[22]},none⟩,
 ⟨some 15,Op.fieldAddr 50 (Operand.tmp 3) 2,none⟩,
 ⟨none,Op.store 22 (Operand.tmp 15) (Operand.tmp 14),none⟩])
 (.seq
 (.region [18] false ([]) [
 ⟨some 16,Op.fieldAddr 45 (Operand.tmp 1) 3,none⟩,
 ⟨some 17,Op.load 22 (Operand.tmp 16),none⟩,
 ⟨some 18,Op.call {callee:=Callee.value (Operand.func 39),args:=#[Operand.tmp 17],argTypes:=#[22]},none⟩,
 ⟨some 19,Op.fieldAddr 50 (Operand.tmp 3) 3,none⟩,
 ⟨none,Op.store 22 (Operand.tmp 19) (Operand.tmp 18),none⟩])
 (.seq
 (.region [22] false ([]) [
 ⟨some 20,Op.fieldAddr 45 (Operand.tmp 1) 4,none⟩,
 ⟨some 21,Op.load 22 (Operand.tmp 20),none⟩,
 ⟨some 22,Op.call {callee:=Callee.value (Operand.func 39),args:=#[Operand.tmp 21],argTypes:=#[22]},none⟩,
 ⟨some 23,Op.fieldAddr 50 (Operand.tmp 3) 4,none⟩,
 ⟨none,Op.store 22 (Operand.tmp 23) (Operand.tmp 22),none⟩])
 (.seq
 (.region [26] false ([]) [
 ⟨some 24,Op.fieldAddr 45 (Operand.tmp 1) 5,none⟩,
 ⟨some 25,Op.load 22 (Operand.tmp 24),none⟩,
 ⟨some 26,Op.call {callee:=Callee.value (Operand.func 39),args:=#[Operand.tmp 25],argTypes:=#[22]},none⟩,
 ⟨some 27,Op.fieldAddr 50 (Operand.tmp 3) 5,none⟩,
 ⟨none,Op.store 22 (Operand.tmp 27) (Operand.tmp 26),none⟩])
 (.seq
 (.region [30] false ([]) [
 ⟨some 28,Op.fieldAddr 45 (Operand.tmp 1) 6,none⟩,
 ⟨some 29,Op.load 22 (Operand.tmp 28),none⟩,
 ⟨some 30,Op.call {callee:=Callee.value (Operand.func 39),args:=#[Operand.tmp 29],argTypes:=#[22]},none⟩,
 ⟨some 31,Op.fieldAddr 50 (Operand.tmp 3) 6,none⟩,
 ⟨none,Op.store 22 (Operand.tmp 31) (Operand.tmp 30),none⟩])
 (.seq
 (.region [] false ([]) [
 ⟨some 32,Op.load 50 (Operand.tmp 3),none⟩,
 ⟨none,Op.store 50 (Operand.tmp 2) (Operand.tmp 32),none⟩])
 .ret))))))))))
set_option maxHeartbeats 0 in
theorem toG (g : Gr) (h : sumG g ≤ 1048576) : CallsF Try.prog 22 [.agg (encG g)] (.agg (rvG g)) [] := by
  unfold sumG at h
  refine callsF_of_wp1 (fn := Try.f22) (k := k22) (fun _ => []) mixed (by kernel_rfl) rfl (by kernel_rfl) (by kernel_rfl) (by kernel_rfl) rfl (by simp [Try.f22]) (by simp [Arg.like]) ?_
  generalize hst : St.enter [.agg (encG g)] = st0
  have t0 : st0.tm 0 = .agg ((encG g) |>.map .t) := by rw [← hst]; rfl
  clear hst
  unfold k22
  simp [encG] at t0
  repeat' (first
   | refine wp1_seq fun K hK => ?_
   | refine M_cons fun K hK => ?_
   | (refine hK _ ?_; clear hK K)
   | refine wp1_region ?_
   | (refine callT_fl (toI _ ?_) (by simp [St.args, St.arg, t0] <;> first | rfl | ((repeat' first | rfl | apply And.intro); first | done | fail)) ?_; omega)
   | simp (maxSteps := 4000000) (disch := omega) [t0])
  simp [Back, rvG]
/-- The code of laws.eqGraph. -/
def k25 : Code1 :=
 (.seq
 (.region [2,3] false ([]) [
 ⟨some 2,Op.box 50 (Operand.tmp 0),none⟩,
 ⟨some 3,Op.box 50 (Operand.tmp 1),none⟩,
 ⟨some 4,Op.assign (Operand.const (Value.bool false)),none⟩])
 (.seq
 (.seq
 (.region [9] false ([]) [
 ⟨some 5,Op.fieldAddr 50 (Operand.tmp 2) 0,none⟩,
 ⟨some 6,Op.load 22 (Operand.tmp 5),none⟩,
 ⟨some 7,Op.fieldAddr 50 (Operand.tmp 3) 0,none⟩,
 ⟨some 8,Op.load 22 (Operand.tmp 7),none⟩,
 ⟨some 9,Op.call {callee:=Callee.value (Operand.func 42),args:=#[Operand.tmp 6,Operand.tmp 8],argTypes:=#[22,22]},none⟩,
 ⟨some 10,Op.unOp UnOp.not 4 (Operand.tmp 9),none⟩])
 (.cond (Operand.tmp 10)
 (.seq
 (.region [] false ([]) [
 ⟨some 4,Op.assign (Operand.const (Value.bool false)),none⟩])
 .ret)
 .skip))
 (.seq
 (.seq
 (.region [15] false ([]) [
 ⟨some 11,Op.fieldAddr 50 (Operand.tmp 2) 1,none⟩,
 ⟨some 12,Op.load 22 (Operand.tmp 11),none⟩,
 ⟨some 13,Op.fieldAddr 50 (Operand.tmp 3) 1,none⟩,
 ⟨some 14,Op.load 22 (Operand.tmp 13),none⟩,
 ⟨some 15,Op.call {callee:=Callee.value (Operand.func 42),args:=#[Operand.tmp 12,Operand.tmp 14],argTypes:=#[22,22]},none⟩,
 ⟨some 16,Op.unOp UnOp.not 4 (Operand.tmp 15),none⟩])
 (.cond (Operand.tmp 16)
 (.seq
 (.region [] false ([]) [
 ⟨some 4,Op.assign (Operand.const (Value.bool false)),none⟩])
 .ret)
 .skip))
 (.seq
 (.seq
 (.region [21] false ([]) [
 ⟨some 17,Op.fieldAddr 50 (Operand.tmp 2) 2,none⟩,
 ⟨some 18,Op.load 22 (Operand.tmp 17),none⟩,
 ⟨some 19,Op.fieldAddr 50 (Operand.tmp 3) 2,none⟩,
 ⟨some 20,Op.load 22 (Operand.tmp 19),none⟩,
 ⟨some 21,Op.call {callee:=Callee.value (Operand.func 42),args:=#[Operand.tmp 18,Operand.tmp 20],argTypes:=#[22,22]},none⟩,
 ⟨some 22,Op.unOp UnOp.not 4 (Operand.tmp 21),none⟩])
 (.cond (Operand.tmp 22)
 (.seq
 (.region [] false ([]) [
 ⟨some 4,Op.assign (Operand.const (Value.bool false)),none⟩])
 .ret)
 .skip))
 (.seq
 (.seq
 (.region [27] false ([]) [
 ⟨some 23,Op.fieldAddr 50 (Operand.tmp 2) 3,none⟩,
 ⟨some 24,Op.load 22 (Operand.tmp 23),none⟩,
 ⟨some 25,Op.fieldAddr 50 (Operand.tmp 3) 3,none⟩,
 ⟨some 26,Op.load 22 (Operand.tmp 25),none⟩,
 ⟨some 27,Op.call {callee:=Callee.value (Operand.func 42),args:=#[Operand.tmp 24,Operand.tmp 26],argTypes:=#[22,22]},none⟩,
 ⟨some 28,Op.unOp UnOp.not 4 (Operand.tmp 27),none⟩])
 (.cond (Operand.tmp 28)
 (.seq
 (.region [] false ([]) [
 ⟨some 4,Op.assign (Operand.const (Value.bool false)),none⟩])
 .ret)
 .skip))
 (.seq
 (.seq
 (.region [33] false ([]) [
 ⟨some 29,Op.fieldAddr 50 (Operand.tmp 2) 4,none⟩,
 ⟨some 30,Op.load 22 (Operand.tmp 29),none⟩,
 ⟨some 31,Op.fieldAddr 50 (Operand.tmp 3) 4,none⟩,
 ⟨some 32,Op.load 22 (Operand.tmp 31),none⟩,
 ⟨some 33,Op.call {callee:=Callee.value (Operand.func 42),args:=#[Operand.tmp 30,Operand.tmp 32],argTypes:=#[22,22]},none⟩,
 ⟨some 34,Op.unOp UnOp.not 4 (Operand.tmp 33),none⟩])
 (.cond (Operand.tmp 34)
 (.seq
 (.region [] false ([]) [
 ⟨some 4,Op.assign (Operand.const (Value.bool false)),none⟩])
 .ret)
 .skip))
 (.seq
 (.seq
 (.region [39] false ([]) [
 ⟨some 35,Op.fieldAddr 50 (Operand.tmp 2) 5,none⟩,
 ⟨some 36,Op.load 22 (Operand.tmp 35),none⟩,
 ⟨some 37,Op.fieldAddr 50 (Operand.tmp 3) 5,none⟩,
 ⟨some 38,Op.load 22 (Operand.tmp 37),none⟩,
 ⟨some 39,Op.call {callee:=Callee.value (Operand.func 42),args:=#[Operand.tmp 36,Operand.tmp 38],argTypes:=#[22,22]},none⟩,
 ⟨some 40,Op.unOp UnOp.not 4 (Operand.tmp 39),none⟩])
 (.cond (Operand.tmp 40)
 (.seq
 (.region [] false ([]) [
 ⟨some 4,Op.assign (Operand.const (Value.bool false)),none⟩])
 .ret)
 .skip))
 (.seq
 (.seq
 (.region [45] false ([]) [
 ⟨some 41,Op.fieldAddr 50 (Operand.tmp 2) 6,none⟩,
 ⟨some 42,Op.load 22 (Operand.tmp 41),none⟩,
 ⟨some 43,Op.fieldAddr 50 (Operand.tmp 3) 6,none⟩,
 ⟨some 44,Op.load 22 (Operand.tmp 43),none⟩,
 ⟨some 45,Op.call {callee:=Callee.value (Operand.func 42),args:=#[Operand.tmp 42,Operand.tmp 44],argTypes:=#[22,22]},none⟩,
 ⟨some 46,Op.unOp UnOp.not 4 (Operand.tmp 45),none⟩])
 (.cond (Operand.tmp 46)
 (.seq
 (.region [] false ([]) [
 ⟨some 4,Op.assign (Operand.const (Value.bool false)),none⟩])
 .ret)
 .skip))
 (.seq
 (.region [] false ([]) [
 ⟨some 4,Op.assign (Operand.const (Value.bool true)),none⟩])
 .ret)))))))))
set_option maxHeartbeats 0 in
theorem eqG (g : Gr) (h : sumG g ≤ 1048576) : CallsF Try.prog 25 [.agg (encG g), .agg (encG g)] (.t (.v (.bool true))) [] := by
  unfold sumG at h
  refine callsF_of_wp1 (fn := Try.f25) (k := k25) (fun _ => []) mixed (by kernel_rfl) rfl (by kernel_rfl) (by kernel_rfl) (by kernel_rfl) rfl (by simp [Try.f25]) (by simp [Arg.like]) ?_
  generalize hst : St.enter [.agg (encG g), .agg (encG g)] = st0
  have t0 : st0.tm 0 = .agg ((encG g) |>.map .t) := by rw [← hst]; rfl
  have t1 : st0.tm 1 = .agg ((encG g) |>.map .t) := by rw [← hst]; rfl
  clear hst
  unfold k25
  simp [encG] at t0 t1
  repeat' (first
   | refine wp1_seq fun K hK => ?_
   | refine M_cons fun K hK => ?_
   | (refine hK _ ?_; clear hK K)
   | (refine hY _ ?_; clear hX hY X Y)
   | refine wp1_region ?_
   | refine wp1_cond fun X Y hX hY => ?_
   | (refine condK_of (fun c => ?_) (fun c => ?_) <;> (try simp [-List.length_eq_zero_iff] at c))
   | (refine callT_fl (eqI _ _ ?_ ?_) (by simp [St.args, St.arg, t0, t1] <;> first | rfl | ((repeat' first | rfl | apply And.intro); first | done | fail)) ?_; omega; omega)
   | simp (maxSteps := 4000000) (disch := omega) [t0, t1])
  all_goals try (simp [t0, t1, Back]; done)
end Cal

set_option linter.unusedSimpArgs false
set_option linter.unusedVariables false
namespace Cal
open Go Go.Proofs
set_option maxRecDepth 100000
/-- k, k + 1, .. -/
def marked (k : Int) (n : Nat) : List Int := (List.range n).map fun (i : Nat) => k + (i : Int)
@[simp] theorem marked_length (k : Int) (n : Nat) : (marked k n).length = n := by simp [marked]
theorem rd_marked {k : Int} {n i : Nat} (h : i < n) : rd (marked k n) i = k + i := by
  unfold rd marked
  simp [List.getD_eq_getElem?_getD, h]
/-- The code of laws.markInt64S. -/
def k73 : Code1 :=
 (.seq
 (.region [] false ([]) [
 ⟨some 4,Op.assign (Operand.const (Value.int IntKind.i64 0)),none⟩])
 (.seq
 (.seq
 (.region [] false ([]) [
 ⟨some 5,Op.assign (Operand.const (Value.int IntKind.i64 0)),none⟩])
 (.block 0
 (.loop
 (.seq
 (.seq
 (.region [] false ([]) [
 ⟨some 6,Op.move (Operand.tmp 5),none⟩,
 ⟨some 7,Op.move (Operand.tmp 0),none⟩,
 ⟨some 8,Op.call {callee:=Callee.builtin Builtin.len,args:=#[Operand.tmp 7],argTypes:=#[22]},none⟩,
 ⟨some 9,Op.binOp BinOp.lss 3 (Operand.tmp 6) (Operand.tmp 8) 3,none⟩])
 (.cond (Operand.tmp 9)
 .skip
 (.exit 0)))
 (.seq
 (.block 1
 (.seq
 (.region [] false ([]) [
 ⟨some 12,Op.move (Operand.tmp 0),none⟩,
 ⟨some 13,Op.move (Operand.tmp 5),none⟩,
 ⟨some 14,Op.move (Operand.tmp 1),none⟩,
 ⟨some 15,Op.indexAddr 22 (Operand.tmp 12) (Operand.tmp 13),none⟩,
 ⟨none,Op.store 2 (Operand.tmp 15) (Operand.tmp 14),none⟩])
 (.region [] false ([]) [
 ⟨some 16,Op.move (Operand.tmp 1),none⟩,
 ⟨some 17,Op.binOp BinOp.add 3 (Operand.tmp 16) (Operand.const (Value.int IntKind.i64 1)) 3,none⟩,
 ⟨some 1,Op.assign (Operand.tmp 17),none⟩])))
 (.region [] false ([]) [
 ⟨some 10,Op.move (Operand.tmp 5),none⟩,
 ⟨some 11,Op.binOp BinOp.add 3 (Operand.tmp 10) (Operand.const (Value.int IntKind.i64 1)) 3,none⟩,
 ⟨some 5,Op.assign (Operand.tmp 11),none⟩]))))))
 (.seq
 (.region [] false ([]) [
 ⟨some 18,Op.move (Operand.tmp 1),none⟩,
 ⟨some 4,Op.assign (Operand.tmp 18),none⟩])
 .ret)))
theorem markI (l : List Int) (k : Int) (h0 : 0 ≤ k) (h1 : k ≤ 1000000000) (h2 : l.length ≤ 1048576) :
    CallsF Try.prog 73 [.mrow 1 (intRow l), .val (.v (.int .i64 k))] (.t (.v (.int .i64 (k + l.length)))) [some (.mrow 1 (intRow (marked k l.length)))] := by
  refine callsF_of_wp2 (fn := Try.f73) (k := k73) (fun _ => []) mixed (by kernel_rfl) rfl (by kernel_rfl) (by kernel_rfl) (by kernel_rfl) rfl (by simp [Try.f73]) (by simp [Arg.like]) ?_
  generalize hst : St.enter [.mrow 1 (intRow l), .val (.v (.int .i64 k))] = st0
  have t0 : st0.tm 0 = .row (100000, 0) 1 0 ((intRow l)).length := by rw [← hst]; rfl
  have o0 : st0.ob (100000, 0) = some (.row 1 (intRow l)) := by rw [← hst]; rfl
  have t1 : st0.tm 1 = .t (.v (.int .i64 k)) := by rw [← hst]; rfl
  clear hst
  unfold k73
  simp at t0
  repeat' (first
   | refine wp2_seq fun K hK => ?_
   | refine M_cons fun K hK => ?_
   | (refine hK _ ?_; clear hK K)
   | refine wp2_block ?_
   | refine wp2_region ?_
   | simp (maxSteps := 4000000) (disch := omega) [t0, o0, t1])
  have hJ : ∀ s, s.tm 1 = .t (.v (.int .i64 (k + l.length))) → s.ob (100000, 0) = some (.row 1 (intRow (marked k l.length))) → K s := by
    intro s s1 o
    have hb : base = 100000 := rfl
    repeat' (first
     | refine wp2_seq fun K hK => ?_
     | refine M_cons fun K hK => ?_
     | (refine hK _ ?_; clear hK K)
     | refine wp2_region ?_
     | simp (maxSteps := 4000000) (disch := omega) [s1, o, hb])
    all_goals try (simp [s1, o, hb, Back]; done)
  clear hK
  refine wp2_loop (fun n s => ∃ (j : Nat) (xs : List Int), s.tm 0 = .row (100000, 0) 1 0 l.length ∧ s.ob (100000, 0) = some (.row 1 (intRow xs)) ∧ xs.length = l.length ∧ s.tm 5 = .t (.v (.int .i64 j)) ∧ s.tm 1 = .t (.v (.int .i64 (k + j))) ∧ j ≤ l.length ∧ n = l.length - j ∧ ∀ i < j, rd xs i = k + i) l.length ?_ ?_
  · exact ⟨0, l, by simp [t0, o0, t1]⟩
  · rintro n s ⟨j, xs, s0, o, hx, s5, s1, hj, rfl, hq⟩ K' hK'
    repeat' (first
     | refine wp2_seq fun K hK => ?_
     | refine M_cons fun K hK => ?_
     | (refine hK _ ?_; clear hK K)
     | (refine hX _ ?_; clear hX hY X Y)
     | (refine hY _ ?_; clear hX hY X Y)
     | refine wp2_block ?_
     | refine wp2_region ?_
     | refine wp2_cond fun X Y hX hY => ?_
     | (refine condK_of (fun c => ?_) (fun c => ?_) <;> (try simp [-List.length_eq_zero_iff] at c))
     | simp (maxSteps := 4000000) (disch := omega) [s0, o, s5, s1, hx])
    · refine hK' (l.length - (j + 1)) _ (by omega) ⟨j + 1, xs.set j (k + j), ?_⟩
      simp [s0, hx]
      refine ⟨by omega, by omega, below_succ (p := fun i : Nat => rd (xs.set j (k + j)) i = k + i) (fun i hi => ?_) (rd_set_eq (by omega))⟩
      rw [rd_set_ne (by omega)]
      exact hq i hi
    · have hjl : j = l.length := by omega
      refine hJ _ ?_ ?_
      · simp [s1, hjl]
      · simp [o]
        rw [eq_of_rd (a := xs) (b := marked k l.length) (by simp [hx]) fun i hi => by rw [hq i (by omega), rd_marked (by omega)]]
/-- The code of laws.heldInt64S. -/
def k78 : Code1 :=
 (.seq
 (.region [] false ([]) [
 ⟨some 4,Op.assign (Operand.const (Value.int IntKind.i64 0)),none⟩])
 (.seq
 (.seq
 (.region [] false ([]) [
 ⟨some 5,Op.assign (Operand.const (Value.int IntKind.i64 0)),none⟩])
 (.block 0
 (.loop
 (.seq
 (.seq
 (.region [] false ([]) [
 ⟨some 6,Op.move (Operand.tmp 5),none⟩,
 ⟨some 7,Op.move (Operand.tmp 0),none⟩,
 ⟨some 8,Op.call {callee:=Callee.builtin Builtin.len,args:=#[Operand.tmp 7],argTypes:=#[22]},none⟩,
 ⟨some 9,Op.binOp BinOp.lss 3 (Operand.tmp 6) (Operand.tmp 8) 3,none⟩])
 (.cond (Operand.tmp 9)
 .skip
 (.exit 0)))
 (.seq
 (.block 1
 (.seq
 (.seq
 (.region [] false ([]) [
 ⟨some 12,Op.move (Operand.tmp 0),none⟩,
 ⟨some 13,Op.move (Operand.tmp 5),none⟩,
 ⟨some 14,Op.indexAddr 22 (Operand.tmp 12) (Operand.tmp 13),none⟩,
 ⟨some 15,Op.load 2 (Operand.tmp 14),none⟩,
 ⟨some 16,Op.move (Operand.tmp 1),none⟩,
 ⟨some 17,Op.binOp BinOp.neq 2 (Operand.tmp 15) (Operand.tmp 16) 2,none⟩])
 (.cond (Operand.tmp 17)
 (.seq
 (.region [] false ([]) [
 ⟨some 4,Op.assign (Operand.const (Value.int IntKind.i64 (-1))),none⟩])
 .ret)
 .skip))
 (.region [] false ([]) [
 ⟨some 18,Op.move (Operand.tmp 1),none⟩,
 ⟨some 19,Op.binOp BinOp.add 3 (Operand.tmp 18) (Operand.const (Value.int IntKind.i64 1)) 3,none⟩,
 ⟨some 1,Op.assign (Operand.tmp 19),none⟩])))
 (.region [] false ([]) [
 ⟨some 10,Op.move (Operand.tmp 5),none⟩,
 ⟨some 11,Op.binOp BinOp.add 3 (Operand.tmp 10) (Operand.const (Value.int IntKind.i64 1)) 3,none⟩,
 ⟨some 5,Op.assign (Operand.tmp 11),none⟩]))))))
 (.seq
 (.region [] false ([]) [
 ⟨some 20,Op.move (Operand.tmp 1),none⟩,
 ⟨some 4,Op.assign (Operand.tmp 20),none⟩])
 .ret)))
theorem heldI (n : Nat) (k : Int) (h0 : 0 ≤ k) (h1 : k ≤ 1000000000) (h2 : n ≤ 1048576) :
    CallsF Try.prog 78 [.val (ints (marked k n)), .val (.v (.int .i64 k))] (.t (.v (.int .i64 (k + n)))) [] := by
  refine callsF_of_wp2 (fn := Try.f78) (k := k78) (fun _ => []) mixed (by kernel_rfl) rfl (by kernel_rfl) (by kernel_rfl) (by kernel_rfl) rfl (by simp [Try.f78]) (by simp [Arg.like]) ?_
  generalize hst : St.enter [.val (ints (marked k n)), .val (.v (.int .i64 k))] = st0
  have t0 : st0.tm 0 = .t (ints (marked k n)) := by rw [← hst]; rfl
  have t1 : st0.tm 1 = .t (.v (.int .i64 k)) := by rw [← hst]; rfl
  clear hst
  unfold k78
  have hl : (marked k n).length = n := marked_length k n
  repeat' (first
   | refine wp2_seq fun K hK => ?_
   | refine M_cons fun K hK => ?_
   | (refine hK _ ?_; clear hK K)
   | refine wp2_block ?_
   | refine wp2_region ?_
   | simp (maxSteps := 4000000) (disch := omega) [t0, t1])
  have hJ : ∀ s, s.tm 1 = .t (.v (.int .i64 (k + n))) → K s := by
    intro s s1
    repeat' (first
     | refine wp2_seq fun K hK => ?_
     | refine M_cons fun K hK => ?_
     | (refine hK _ ?_; clear hK K)
     | refine wp2_region ?_
     | simp (maxSteps := 4000000) (disch := omega) [s1])
    all_goals try (simp [s1, Back]; done)
  clear hK
  refine wp2_loop (fun m s => ∃ j : Nat, s.tm 0 = .t (ints (marked k n)) ∧ s.tm 5 = .t (.v (.int .i64 j)) ∧ s.tm 1 = .t (.v (.int .i64 (k + j))) ∧ j ≤ n ∧ m = n - j) n ?_ ?_
  · exact ⟨0, by simp [t0, t1]⟩
  · rintro m s ⟨j, s0, s5, s1, hj, rfl⟩ K' hK'
    have hr : j < n → rd (marked k n) j = k + j := fun h => rd_marked h
    repeat' (first
     | refine wp2_seq fun K hK => ?_
     | refine M_cons fun K hK => ?_
     | (refine hK _ ?_; clear hK K)
     | (refine hX _ ?_; clear hX hY X Y)
     | (refine hY _ ?_; clear hX hY X Y)
     | refine wp2_block ?_
     | refine wp2_region ?_
     | refine wp2_cond fun X Y hX hY => ?_
     | (refine condK_of (fun c => ?_) (fun c => ?_) <;> (try simp [-List.length_eq_zero_iff] at c))
     | simp (maxSteps := 4000000) (disch := omega) [s0, s5, s1])
    all_goals first
      | omega
      | (refine hK' (n - (j + 1)) _ (by omega) ⟨j + 1, ?_⟩; simp [s0]; omega)
      | (refine hJ _ ?_; have hjn : j = n := by omega
         simp [s1, hjn])
      | skip
/-- The code of laws.markGraph. -/
def k26 : Code1 :=
 (.seq
 (.region [2] false ([]) [
 ⟨some 2,Op.box 50 (Operand.tmp 0),none⟩,
 ⟨some 4,Op.assign (Operand.const (Value.int IntKind.i64 0)),none⟩])
 (.seq
 (.region [8] false ([]) [
 ⟨some 5,Op.fieldAddr 50 (Operand.tmp 2) 0,none⟩,
 ⟨some 6,Op.load 22 (Operand.tmp 5),none⟩,
 ⟨some 7,Op.move (Operand.tmp 1),none⟩,
 ⟨some 8,Op.call {callee:=Callee.value (Operand.func 73),args:=#[Operand.tmp 6,Operand.tmp 7],argTypes:=#[22,3]},none⟩,
 ⟨some 1,Op.assign (Operand.tmp 8),none⟩])
 (.seq
 (.region [12] false ([]) [
 ⟨some 9,Op.fieldAddr 50 (Operand.tmp 2) 1,none⟩,
 ⟨some 10,Op.load 22 (Operand.tmp 9),none⟩,
 ⟨some 11,Op.move (Operand.tmp 1),none⟩,
 ⟨some 12,Op.call {callee:=Callee.value (Operand.func 73),args:=#[Operand.tmp 10,Operand.tmp 11],argTypes:=#[22,3]},none⟩,
 ⟨some 1,Op.assign (Operand.tmp 12),none⟩])
 (.seq
 (.region [16] false ([]) [
 ⟨some 13,Op.fieldAddr 50 (Operand.tmp 2) 2,none⟩,
 ⟨some 14,Op.load 22 (Operand.tmp 13),none⟩,
 ⟨some 15,Op.move (Operand.tmp 1),none⟩,
 ⟨some 16,Op.call {callee:=Callee.value (Operand.func 73),args:=#[Operand.tmp 14,Operand.tmp 15],argTypes:=#[22,3]},none⟩,
 ⟨some 1,Op.assign (Operand.tmp 16),none⟩])
 (.seq
 (.region [20] false ([]) [
 ⟨some 17,Op.fieldAddr 50 (Operand.tmp 2) 3,none⟩,
 ⟨some 18,Op.load 22 (Operand.tmp 17),none⟩,
 ⟨some 19,Op.move (Operand.tmp 1),none⟩,
 ⟨some 20,Op.call {callee:=Callee.value (Operand.func 73),args:=#[Operand.tmp 18,Operand.tmp 19],argTypes:=#[22,3]},none⟩,
 ⟨some 1,Op.assign (Operand.tmp 20),none⟩])
 (.seq
 (.region [24] false ([]) [
 ⟨some 21,Op.fieldAddr 50 (Operand.tmp 2) 4,none⟩,
 ⟨some 22,Op.load 22 (Operand.tmp 21),none⟩,
 ⟨some 23,Op.move (Operand.tmp 1),none⟩,
 ⟨some 24,Op.call {callee:=Callee.value (Operand.func 73),args:=#[Operand.tmp 22,Operand.tmp 23],argTypes:=#[22,3]},none⟩,
 ⟨some 1,Op.assign (Operand.tmp 24),none⟩])
 (.seq
 (.region [28] false ([]) [
 ⟨some 25,Op.fieldAddr 50 (Operand.tmp 2) 5,none⟩,
 ⟨some 26,Op.load 22 (Operand.tmp 25),none⟩,
 ⟨some 27,Op.move (Operand.tmp 1),none⟩,
 ⟨some 28,Op.call {callee:=Callee.value (Operand.func 73),args:=#[Operand.tmp 26,Operand.tmp 27],argTypes:=#[22,3]},none⟩,
 ⟨some 1,Op.assign (Operand.tmp 28),none⟩])
 (.seq
 (.region [32] false ([]) [
 ⟨some 29,Op.fieldAddr 50 (Operand.tmp 2) 6,none⟩,
 ⟨some 30,Op.load 22 (Operand.tmp 29),none⟩,
 ⟨some 31,Op.move (Operand.tmp 1),none⟩,
 ⟨some 32,Op.call {callee:=Callee.value (Operand.func 73),args:=#[Operand.tmp 30,Operand.tmp 31],argTypes:=#[22,3]},none⟩,
 ⟨some 1,Op.assign (Operand.tmp 32),none⟩])
 (.seq
 (.region [] false ([]) [
 ⟨some 33,Op.move (Operand.tmp 1),none⟩,
 ⟨some 4,Op.assign (Operand.tmp 33),none⟩])
 .ret)))))))))
set_option maxHeartbeats 0 in
theorem markG (a b c d e f g : List Int) (k : Int) (h0 : 0 ≤ k) (h1 : k ≤ 100000000) (h : (a.length : Int) + b.length + c.length + d.length + e.length + f.length + g.length ≤ 1048576) :
    CallsFS Try.prog 26 [some 7, none] [.mrow 1 (intRow a), .mrow 1 (intRow b), .mrow 1 (intRow c), .mrow 1 (intRow d), .mrow 1 (intRow e), .mrow 1 (intRow f), .mrow 1 (intRow g), .val (.v (.int .i64 k))] (.t (.v (.int .i64 (k + a.length + b.length + c.length + d.length + e.length + f.length + g.length)))) [none, none, none, none, none, none, none] := by
  refine callsFS_of_wp2 (fn := Try.f26) (k := k26) (fun _ => []) mixed (by kernel_rfl) rfl (by kernel_rfl) (by kernel_rfl) (by kernel_rfl) rfl (by simp [Try.f26]) (by simp [Arg.like]) ?_
  generalize hst : St.enterS [some 7, none] [.mrow 1 (intRow a), .mrow 1 (intRow b), .mrow 1 (intRow c), .mrow 1 (intRow d), .mrow 1 (intRow e), .mrow 1 (intRow f), .mrow 1 (intRow g), .val (.v (.int .i64 k))] = st0
  have t0 : st0.tm 0 = .agg [.row (100000, 0) 1 0 (intRow a).length, .row (100001, 0) 1 0 (intRow b).length, .row (100002, 0) 1 0 (intRow c).length, .row (100003, 0) 1 0 (intRow d).length, .row (100004, 0) 1 0 (intRow e).length, .row (100005, 0) 1 0 (intRow f).length, .row (100006, 0) 1 0 (intRow g).length] := by rw [← hst]; rfl
  have t1 : st0.tm 1 = .t (.v (.int .i64 k)) := by rw [← hst]; rfl
  have o0 : st0.ob (100000, 0) = some (.row 1 (intRow a)) := by rw [← hst]; rfl
  have o1 : st0.ob (100001, 0) = some (.row 1 (intRow b)) := by rw [← hst]; rfl
  have o2 : st0.ob (100002, 0) = some (.row 1 (intRow c)) := by rw [← hst]; rfl
  have o3 : st0.ob (100003, 0) = some (.row 1 (intRow d)) := by rw [← hst]; rfl
  have o4 : st0.ob (100004, 0) = some (.row 1 (intRow e)) := by rw [← hst]; rfl
  have o5 : st0.ob (100005, 0) = some (.row 1 (intRow f)) := by rw [← hst]; rfl
  have o6 : st0.ob (100006, 0) = some (.row 1 (intRow g)) := by rw [← hst]; rfl
  clear hst
  unfold k26
  simp at t0
  repeat' (first
   | refine wp2_seq fun K hK => ?_
   | refine M_cons fun K hK => ?_
   | (refine hK _ ?_; clear hK K)
   | refine wp2_region ?_
   | (refine callT_gen true (markI a _ ?_ ?_ ?_) (fun _ => ⟨(by first | (simp [RV.flat, RV.flats, T.flat]; done) | ((repeat' first | exact flat_intRow _ | exact flat_boolRow _ | exact flat_byteR _ | exact trivial | constructor | unfold RV.flat | unfold RV.flats); first | done | fail)), (by (repeat' first | exact flat_intRow _ | exact flat_boolRow _ | exact flat_byteR _ | exact trivial | constructor | unfold Arg.flats | unfold Arg.flat); first | done | fail)⟩) (by simp [St.args, St.arg, t0, t1, o0, o1, o2, o3, o4, o5, o6] <;> first | rfl | ((repeat' first | rfl | apply And.intro); first | done | fail)) (by simp [apartArgs, mutsOf, noRow, valsOf]) (by simp) ?_; omega; omega; omega)
   | (refine callT_gen true (markI b _ ?_ ?_ ?_) (fun _ => ⟨(by first | (simp [RV.flat, RV.flats, T.flat]; done) | ((repeat' first | exact flat_intRow _ | exact flat_boolRow _ | exact flat_byteR _ | exact trivial | constructor | unfold RV.flat | unfold RV.flats); first | done | fail)), (by (repeat' first | exact flat_intRow _ | exact flat_boolRow _ | exact flat_byteR _ | exact trivial | constructor | unfold Arg.flats | unfold Arg.flat); first | done | fail)⟩) (by simp [St.args, St.arg, t0, t1, o0, o1, o2, o3, o4, o5, o6] <;> first | rfl | ((repeat' first | rfl | apply And.intro); first | done | fail)) (by simp [apartArgs, mutsOf, noRow, valsOf]) (by simp) ?_; omega; omega; omega)
   | (refine callT_gen true (markI c _ ?_ ?_ ?_) (fun _ => ⟨(by first | (simp [RV.flat, RV.flats, T.flat]; done) | ((repeat' first | exact flat_intRow _ | exact flat_boolRow _ | exact flat_byteR _ | exact trivial | constructor | unfold RV.flat | unfold RV.flats); first | done | fail)), (by (repeat' first | exact flat_intRow _ | exact flat_boolRow _ | exact flat_byteR _ | exact trivial | constructor | unfold Arg.flats | unfold Arg.flat); first | done | fail)⟩) (by simp [St.args, St.arg, t0, t1, o0, o1, o2, o3, o4, o5, o6] <;> first | rfl | ((repeat' first | rfl | apply And.intro); first | done | fail)) (by simp [apartArgs, mutsOf, noRow, valsOf]) (by simp) ?_; omega; omega; omega)
   | (refine callT_gen true (markI d _ ?_ ?_ ?_) (fun _ => ⟨(by first | (simp [RV.flat, RV.flats, T.flat]; done) | ((repeat' first | exact flat_intRow _ | exact flat_boolRow _ | exact flat_byteR _ | exact trivial | constructor | unfold RV.flat | unfold RV.flats); first | done | fail)), (by (repeat' first | exact flat_intRow _ | exact flat_boolRow _ | exact flat_byteR _ | exact trivial | constructor | unfold Arg.flats | unfold Arg.flat); first | done | fail)⟩) (by simp [St.args, St.arg, t0, t1, o0, o1, o2, o3, o4, o5, o6] <;> first | rfl | ((repeat' first | rfl | apply And.intro); first | done | fail)) (by simp [apartArgs, mutsOf, noRow, valsOf]) (by simp) ?_; omega; omega; omega)
   | (refine callT_gen true (markI e _ ?_ ?_ ?_) (fun _ => ⟨(by first | (simp [RV.flat, RV.flats, T.flat]; done) | ((repeat' first | exact flat_intRow _ | exact flat_boolRow _ | exact flat_byteR _ | exact trivial | constructor | unfold RV.flat | unfold RV.flats); first | done | fail)), (by (repeat' first | exact flat_intRow _ | exact flat_boolRow _ | exact flat_byteR _ | exact trivial | constructor | unfold Arg.flats | unfold Arg.flat); first | done | fail)⟩) (by simp [St.args, St.arg, t0, t1, o0, o1, o2, o3, o4, o5, o6] <;> first | rfl | ((repeat' first | rfl | apply And.intro); first | done | fail)) (by simp [apartArgs, mutsOf, noRow, valsOf]) (by simp) ?_; omega; omega; omega)
   | (refine callT_gen true (markI f _ ?_ ?_ ?_) (fun _ => ⟨(by first | (simp [RV.flat, RV.flats, T.flat]; done) | ((repeat' first | exact flat_intRow _ | exact flat_boolRow _ | exact flat_byteR _ | exact trivial | constructor | unfold RV.flat | unfold RV.flats); first | done | fail)), (by (repeat' first | exact flat_intRow _ | exact flat_boolRow _ | exact flat_byteR _ | exact trivial | constructor | unfold Arg.flats | unfold Arg.flat); first | done | fail)⟩) (by simp [St.args, St.arg, t0, t1, o0, o1, o2, o3, o4, o5, o6] <;> first | rfl | ((repeat' first | rfl | apply And.intro); first | done | fail)) (by simp [apartArgs, mutsOf, noRow, valsOf]) (by simp) ?_; omega; omega; omega)
   | (refine callT_gen true (markI g _ ?_ ?_ ?_) (fun _ => ⟨(by first | (simp [RV.flat, RV.flats, T.flat]; done) | ((repeat' first | exact flat_intRow _ | exact flat_boolRow _ | exact flat_byteR _ | exact trivial | constructor | unfold RV.flat | unfold RV.flats); first | done | fail)), (by (repeat' first | exact flat_intRow _ | exact flat_boolRow _ | exact flat_byteR _ | exact trivial | constructor | unfold Arg.flats | unfold Arg.flat); first | done | fail)⟩) (by simp [St.args, St.arg, t0, t1, o0, o1, o2, o3, o4, o5, o6] <;> first | rfl | ((repeat' first | rfl | apply And.intro); first | done | fail)) (by simp [apartArgs, mutsOf, noRow, valsOf]) (by simp) ?_; omega; omega; omega)
   | simp (maxSteps := 4000000) (disch := omega) [t0, t1, o0, o1, o2, o3, o4, o5, o6])
  all_goals try (simp [t0, t1, o0, o1, o2, o3, o4, o5, o6, Back]; done)
end Cal
