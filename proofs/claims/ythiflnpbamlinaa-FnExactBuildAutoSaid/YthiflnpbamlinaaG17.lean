/- A part of the proof: a calculus of our own over the model's code, and contracts of the program's functions. -/
import Derived.Maps.RangeRun
import Derived.Great.BuildSlice
import Derived.Test.YthiflnpbamlinaaG1
import Derived.Test.YthiflnpbamlinaaG11
import Derived.Test.YthiflnpbamlinaaG12
import Derived.Test.YthiflnpbamlinaaG15
/- impl.BuildAuto: the keys of a map, handed out in whatever order, collected in a row. -/
set_option linter.unusedSimpArgs false
set_option linter.unusedVariables false
namespace Cal
open Go Go.Proofs Go.RowKit
open Go.ChangeMaps (setBlock)
set_option maxRecDepth 100000
section
variable {P : Program} {w0 w w' : World} {S0 S : Nat → Prop} {own : List Nat} {H : Nat → Nat × Nat} {X : Nat → Value} {N : Nat} {m cap : Id → Nat} {st : St} {a : Act}
theorem setBlock_heap {w : World} {r : Nat} {o : Obj} (hr : r < w.heap.size) (j : Nat) : (setBlock w r o).heap[j]? = if j = r then some o else w.heap[j]? := by
  show (w.heap.setIfInBounds r o)[j]? = _
  rw [Array.getElem?_setIfInBounds]
  by_cases hj : r = j
  · subst hj; simp [hr]
  · rw [if_neg hj, if_neg (fun e => hj e.symm)]
theorem setBlock_below {w w1 : World} {r B : Nat} {o : Obj} (hw : w1 = w ∨ w1 = w.drew) (hr : r < w.heap.size) (hB : B ≤ r) : Below B w (setBlock w1 r o) := by
  have hr1 : r < w1.heap.size := by rcases hw with rfl | rfl <;> exact hr
  refine ⟨?_, ?_, ?_, ?_, fun k hk => ?_⟩
  · rcases hw with rfl | rfl <;> rfl
  · rcases hw with rfl | rfl <;> rfl
  · rcases hw with rfl | rfl <;> rfl
  · have : (setBlock w1 r o).heap.size = w1.heap.size := by show (w1.heap.setIfInBounds r o).size = _; simp
    rw [this]
    rcases hw with rfl | rfl <;> exact Nat.le_refl _
  · rw [setBlock_heap hr1, if_neg (by omega)]
    rcases hw with rfl | rfl <;> rfl
/-- One operation of a region, at the world. -/
theorem opRun {ops : Array Oper} {Q : Exit → Act → World → Prop} {i : Nat} {l : List Nat} {o : Oper} (hi : ops[i]? = some o) (hg : o.guard = none) {u : Value} (hv : (execOp a.eval o).run P w = .ok (.value u) w') (hk : wpOps P ops Q l (a.put o.dst u) w') : wpOps P ops Q (i :: l) a w := by
  rw [wpOps_cons]
  unfold Go.wpOp
  simp only [hi, Region.wanted, hg]
  simp only [if_true]
  refine .inl ?_
  unfold Oper.wp
  rw [hv]
  exact hk
theorem put_size (a : Act) (d : Option Nat) (u : Value) : (a.put d u).tmps.size = a.tmps.size := by cases d <;> simp [Act.put]
theorem put_defers (a : Act) (d : Option Nat) (u : Value) : (a.put d u).defers = a.defers := by cases d <;> rfl
theorem put_getD (a : Act) (d : Nat) (u : Value) (t : Nat) : (a.put (some d) u).tmps.getD t undef = if t = d ∧ d < a.tmps.size then u else a.tmps.getD t undef := by
  simp only [Act.put]
  rw [Array.getD_eq_getD_getElem?, Array.getD_eq_getD_getElem?, Array.getElem?_setIfInBounds]
  by_cases e : d = t
  · subst e
    by_cases h : d < a.tmps.size
    · simp [h]
    · simp [h]
  · rw [if_neg e, if_neg (fun h => e h.1.symm)]
theorem eval_tmp (a : Act) (t : Nat) : a.eval (.tmp t) = a.tmps.getD t undef := rfl
def blank (st : St) (ts : List Nat) : St := { st with tm := fun t => if t ∈ ts then .bad else st.tm t }
/-- Temporaries that are written now and then. -/
theorem RelAt.blank (h : RelAt w0 S0 own X N m cap S st a w) (ts : List Nat) {a' : Act} (h1 : a'.tmps.size = N) (h2 : a'.defers = []) (h3 : ∀ t, t ∉ ts → a'.tmps.getD t undef = a.tmps.getD t undef) : RelAt w0 S0 own X N m cap S (blank st ts) a' w := by
  refine ⟨h1, h2, h.after, h.stab, h.base, h.fresh, h.obs, h.mine, h.inj, fun t => ?_, h.gh⟩
  show AVrep w S m cap st.ob (if t ∈ ts then .bad else st.tm t) _
  split
  · unfold AVrep; trivial
  · rename_i ht
    rw [h3 t ht]
    exact h.tm t
/-- What lies above is no matter. -/
theorem RelAt.below (h : RelAt w0 S0 own X N m cap S st a w) (hb : Below w.heap.size w w') : RelAt w0 S0 own X N m cap S st a w' := by
  have hs : Same S w w' := fun b hb' => hb.block b (h.stab b hb')
  have ht : Turn (fun _ => False) m m cap cap st.ob st.ob := ⟨fun i _ => Ob.leads_refl _, fun i _ => ⟨rfl, rfl⟩⟩
  refine ⟨h.size, h.defers, ⟨h.after.fix, hb.os.trans h.after.os, hb.tape.trans h.after.tape, hb.output.trans h.after.output, Nat.le_trans h.after.size hb.size, fun k hk hn => ?_⟩, fun b hb' => Nat.lt_of_lt_of_le (h.stab b hb') hb.size, h.base, h.fresh, fun i o hi => ?_, h.mine, h.inj, fun t => ?_, fun t => ?_⟩
  · rw [hb.block k (Nat.lt_of_lt_of_le hk h.after.size)]
    exact h.after.block k hk hn
  · exact (h.obs i o hi).keep hs (fun _ hb => hb) ht (fun hx => hx) (AV.frees_false _) (hb.block _ (h.obs i o hi).lt) (fun hx => hx)
  · exact AVrep.keep hs (fun _ hb => hb) ht _ _ (AV.free_false _) (h.tm t)
  · exact AVrep.keep hs (fun _ hb => hb) ht _ _ (AV.free_false _) (h.gh t)
/-- The loop over a map's entries: those of ds have been handed out. -/
structure RK (N : Nat) (a0 : Act) (ts : List Nat) (w : World) (b clock : Nat) (es : Array MapEntry) (ti tk : Nat) (e : TypeId) (a : Act) (w' : World) (ds : List MapEntry) : Prop where
  size : a.tmps.size = N
  defers : a.defers = []
  tms : ∀ t, t ∉ ts → a.tmps.getD t undef = a0.tmps.getD t undef
  below : Below w.heap.size w w'
  it : ∃ c, clock ≤ c ∧ w'.heap[w.heap.size]? = some (.mapIter (some b) clock (ds.map (·.born)).toArray c)
  ptr : a.eval (.tmp ti) = .pointer (some ⟨w.heap.size, 0, none⟩)
  row : w'.ownsRow (w.heap.size + 1) e 1 (a.eval (.tmp tk)) ds.length (ds.map (·.key))
  sub : ∀ x ∈ ds, x ∈ es.toList
  nd : (ds.map (·.born)).Nodup
  nil : a.eval (.tmp tk) = .slice none 0 0 ↔ ds = []
variable {a0 : Act} {ts : List Nat} {b clock ti tk : Nat} {es : Array MapEntry} {e : TypeId} {ds : List MapEntry}
theorem born_inj {es : Array MapEntry} (hn : (es.toList.map (·.born)).Nodup) {x y : MapEntry} (hx : x ∈ es.toList) (hy : y ∈ es.toList) (h : x.born = y.born) : x = y := by
  have h1 := find_born x es.toList hn hx
  have h2 := find_born y es.toList hn hy
  rw [h, h2] at h1
  exact (Option.some.inj h1).symm
theorem RK.nodup (h : RK N a0 ts w b clock es ti tk e a w' ds) : ds.Nodup := by
  have := h.nd
  unfold List.Nodup at *
  rw [List.pairwise_map] at this
  refine this.imp fun {x y} hxy he => hxy (by rw [he])
theorem RK.len (h : RK N a0 ts w b clock es ti tk e a w' ds) : ds.length ≤ es.size := by
  have := List.Nodup.length_le_of_subset h.nodup (fun x hx => h.sub x hx)
  simpa using this
theorem RK.all (h : RK N a0 ts w b clock es ti tk e a w' ds) (hn : (es.toList.map (·.born)).Nodup) (hl : (leftOf es (ds.map (·.born)).toArray).size = 0) : ds.Perm es.toList := by
  refine (List.perm_ext_iff_of_nodup h.nodup ?_).2 fun x => ⟨h.sub x, fun hx => ?_⟩
  · unfold List.Nodup at *
    rw [List.pairwise_map] at hn
    exact hn.imp fun {x y} hxy he => hxy (by rw [he])
  · have h0 : leftOf es (ds.map (·.born)).toArray = #[] := Array.eq_empty_of_size_eq_zero hl
    unfold leftOf at h0
    rw [Array.filter_eq_empty_iff] at h0
    have := h0 x (by simpa using hx)
    simp at this
    obtain ⟨y, hy, he⟩ := this
    rw [born_inj hn hx (h.sub y hy) he.symm]
    exact hy
end
end Cal

/- impl.BuildAuto: the keys of a map, handed out in whatever order, collected in a row: the code. -/
set_option linter.unusedSimpArgs false
set_option linter.unusedVariables false
namespace Cal
open Go Go.Proofs Go.RowKit
open Go.ChangeMaps (setBlock)
set_option maxRecDepth 100000
/-- The body of a loop. -/
def k32_l1 : Code1 :=
 (.seq
 (.region [] false ([]) [
 ⟨some 50,Op.binOp BinOp.lss 3 (Operand.tmp 49) (Operand.tmp 48) 3,none⟩])
 (.seq
 (.cond (Operand.tmp 50)
 .skip
 (.exit 2))
 (.seq
 (.block 3
 (.seq
 (.region [] false ([]) [
 ⟨some 51,Op.indexAddr 22 (Operand.tmp 47) (Operand.tmp 49),none⟩,
 ⟨some 52,Op.load 2 (Operand.tmp 51),none⟩,
 ⟨some 10,Op.assign (Operand.tmp 52),none⟩])
 (.seq
 (.region [] false ([]) [
 ⟨some 53,Op.move (Operand.tmp 8),none⟩,
 ⟨some 54,Op.nilCheck (Operand.tmp 53),none⟩,
 ⟨some 55,Op.fieldAddr 147 (Operand.tmp 54) 0,none⟩,
 ⟨some 56,Op.load 145 (Operand.tmp 55),none⟩,
 ⟨some 57,Op.move (Operand.tmp 10),none⟩,
 ⟨some 58,Op.lookup 145 (Operand.tmp 56) (Operand.tmp 57) false,none⟩,
 ⟨some 11,Op.assign (Operand.tmp 58),none⟩])
 (.seq
 (.seq
 (.region [] false ([]) [
 ⟨some 59,Op.move (Operand.tmp 11),none⟩,
 ⟨some 60,Op.binOp BinOp.eql 143 (Operand.tmp 59) (Operand.const (Value.pointer none)) 143,none⟩])
 (.cond (Operand.tmp 60)
 (.seq
 (.region [63] false ([]) [
 ⟨some 61,Op.move (Operand.tmp 8),none⟩,
 ⟨some 62,Op.move (Operand.tmp 10),none⟩,
 ⟨some 63,Op.call {callee:=Callee.value (Operand.func 98),args:=#[Operand.tmp 61,Operand.tmp 62],argTypes:=#[143,2]},none⟩,
 ⟨some 11,Op.assign (Operand.tmp 63),none⟩])
 (.seq
 (.region [] false ([]) [
 ⟨some 64,Op.move (Operand.tmp 8),none⟩,
 ⟨some 65,Op.nilCheck (Operand.tmp 64),none⟩,
 ⟨some 66,Op.fieldAddr 147 (Operand.tmp 65) 0,none⟩,
 ⟨some 67,Op.load 145 (Operand.tmp 66),none⟩,
 ⟨some 68,Op.move (Operand.tmp 10),none⟩,
 ⟨some 69,Op.move (Operand.tmp 11),none⟩,
 ⟨none,Op.mapUpdate 145 (Operand.tmp 67) (Operand.tmp 68) (Operand.tmp 69),none⟩])
 (.seq
 (.region [] false ([]) [
 ⟨some 70,Op.move (Operand.tmp 4),none⟩,
 ⟨some 71,Op.binOp BinOp.add 3 (Operand.tmp 70) (Operand.const (Value.int IntKind.i64 1)) 3,none⟩,
 ⟨some 4,Op.assign (Operand.tmp 71),none⟩])
 (.seq
 (.region [] false ([]) [
 ⟨some 72,Op.move (Operand.tmp 4),none⟩,
 ⟨some 73,Op.binOp BinOp.gtr 3 (Operand.tmp 72) (Operand.const (Value.int IntKind.i64 2000)) 3,none⟩])
 (.cond (Operand.tmp 73)
 (.seq
 (.region [] false ([]) [
 ⟨some 74,Op.build 63 #[(0,Operand.const (Value.int IntKind.i64 13))],none⟩,
 ⟨none,Op.store 63 (Operand.tmp 2) (Operand.tmp 74),none⟩])
 .ret)
 .skip)))))
 .skip))
 (.region [] false ([]) [
 ⟨some 75,Op.move (Operand.tmp 11),none⟩,
 ⟨some 8,Op.assign (Operand.tmp 75),none⟩])))))
 (.region [] false ([]) [
 ⟨some 76,Op.binOp BinOp.add 3 (Operand.tmp 49) (Operand.const (Value.int IntKind.i64 1)) 3,none⟩,
 ⟨some 49,Op.move (Operand.tmp 76),none⟩]))))
/-- The body of a loop. -/
def k32_l0 : Code1 :=
 (.seq
 (.region [] false ([]) [
 ⟨some 34,Op.binOp BinOp.lss 3 (Operand.tmp 33) (Operand.tmp 32) 3,none⟩])
 (.seq
 (.cond (Operand.tmp 34)
 .skip
 (.exit 0))
 (.seq
 (.block 1
 (.seq
 (.region [6] false ([]) [
 ⟨some 35,Op.indexAddr 65 (Operand.tmp 31) (Operand.tmp 33),none⟩,
 ⟨some 36,Op.load 98 (Operand.tmp 35),none⟩,
 ⟨some 6,Op.alloc 98,none⟩,
 ⟨none,Op.store 98 (Operand.tmp 6) (Operand.tmp 36),none⟩])
 (.seq
 (.region [] false ([]) [
 ⟨some 37,Op.fieldAddr 98 (Operand.tmp 6) 2,none⟩,
 ⟨some 38,Op.load 22 (Operand.tmp 37),none⟩,
 ⟨some 7,Op.assign (Operand.tmp 38),none⟩])
 (.seq
 (.seq
 (.region [] false ([]) [
 ⟨some 39,Op.fieldAddr 98 (Operand.tmp 6) 1,none⟩,
 ⟨some 40,Op.load 4 (Operand.tmp 39),none⟩])
 (.cond (Operand.tmp 40)
 (.region [] false ([]) [
 ⟨some 41,Op.move (Operand.tmp 7),none⟩,
 ⟨some 42,Op.move (Operand.tmp 7),none⟩,
 ⟨some 43,Op.call {callee:=Callee.builtin Builtin.len,args:=#[Operand.tmp 42],argTypes:=#[22]},none⟩,
 ⟨some 44,Op.binOp BinOp.sub 3 (Operand.tmp 43) (Operand.const (Value.int IntKind.i64 1)) 3,none⟩,
 ⟨some 45,Op.slice 22 (Operand.tmp 41) none (some (Operand.tmp 44)) none,none⟩,
 ⟨some 7,Op.assign (Operand.tmp 45),none⟩])
 .skip))
 (.seq
 (.region [] false ([]) [
 ⟨some 46,Op.move (Operand.tmp 3),none⟩,
 ⟨some 8,Op.assign (Operand.tmp 46),none⟩])
 (.seq
 (.seq
 (.region [] false ([]) [
 ⟨some 47,Op.move (Operand.tmp 7),none⟩,
 ⟨some 48,Op.call {callee:=Callee.builtin Builtin.len,args:=#[Operand.tmp 47],argTypes:=#[22]},none⟩,
 ⟨some 49,Op.move (Operand.const (Value.int IntKind.i64 0)),none⟩])
 (.block 2
 (.loop k32_l1)))
 (.seq
 (.region [] false ([]) [
 ⟨some 77,Op.fieldAddr 98 (Operand.tmp 6) 1,none⟩,
 ⟨some 78,Op.load 4 (Operand.tmp 77),none⟩])
 (.cond (Operand.tmp 78)
 (.region [92] true ([]) [
 ⟨some 79,Op.move (Operand.tmp 8),none⟩,
 ⟨some 80,Op.move (Operand.tmp 8),none⟩,
 ⟨some 81,Op.nilCheck (Operand.tmp 80),none⟩,
 ⟨some 82,Op.fieldAddr 147 (Operand.tmp 81) 2,none⟩,
 ⟨some 83,Op.load 2 (Operand.tmp 82),none⟩,
 ⟨some 84,Op.fieldAddr 98 (Operand.tmp 6) 2,none⟩,
 ⟨some 85,Op.load 22 (Operand.tmp 84),none⟩,
 ⟨some 86,Op.fieldAddr 98 (Operand.tmp 6) 2,none⟩,
 ⟨some 87,Op.load 22 (Operand.tmp 86),none⟩,
 ⟨some 88,Op.call {callee:=Callee.builtin Builtin.len,args:=#[Operand.tmp 87],argTypes:=#[22]},none⟩,
 ⟨some 89,Op.binOp BinOp.sub 3 (Operand.tmp 88) (Operand.const (Value.int IntKind.i64 1)) 3,none⟩,
 ⟨some 90,Op.indexAddr 22 (Operand.tmp 85) (Operand.tmp 89),none⟩,
 ⟨some 91,Op.load 2 (Operand.tmp 90),none⟩,
 ⟨some 92,Op.call {callee:=Callee.value (Operand.func 99),args:=#[Operand.tmp 83,Operand.tmp 91],argTypes:=#[2,2]},none⟩,
 ⟨some 93,Op.nilCheck (Operand.tmp 79),none⟩,
 ⟨some 94,Op.fieldAddr 147 (Operand.tmp 93) 2,none⟩,
 ⟨none,Op.store 2 (Operand.tmp 94) (Operand.tmp 92),none⟩])
 (.region [] false ([]) [
 ⟨some 95,Op.move (Operand.tmp 8),none⟩,
 ⟨some 96,Op.nilCheck (Operand.tmp 95),none⟩,
 ⟨some 97,Op.fieldAddr 147 (Operand.tmp 96) 1,none⟩,
 ⟨none,Op.store 4 (Operand.tmp 97) (Operand.const (Value.bool true)),none⟩])))))))))
 (.region [] false ([]) [
 ⟨some 98,Op.binOp BinOp.add 3 (Operand.tmp 33) (Operand.const (Value.int IntKind.i64 1)) 3,none⟩,
 ⟨some 33,Op.move (Operand.tmp 98),none⟩]))))
/-- The body of a loop. -/
def k32_l3 : Code1 :=
 (.seq
 (.region [] false ([]) [
 ⟨some 148,Op.next (Operand.tmp 147) false,none⟩,
 ⟨some 149,Op.extract (Operand.tmp 148) 0,none⟩])
 (.seq
 (.cond (Operand.tmp 149)
 .skip
 (.exit 6))
 (.block 7
 (.seq
 (.region [] false ([]) [
 ⟨some 150,Op.entry (Operand.tmp 147),none⟩,
 ⟨some 151,Op.extract (Operand.tmp 150) 0,none⟩,
 ⟨some 18,Op.assign (Operand.tmp 151),none⟩])
 (.region [154,155] false ([]) [
 ⟨some 152,Op.move (Operand.tmp 17),none⟩,
 ⟨some 153,Op.move (Operand.tmp 18),none⟩,
 ⟨some 154,Op.buildSlice 22 1 #[(0,Operand.tmp 153)],none⟩,
 ⟨some 155,Op.call {callee:=Callee.builtin Builtin.append,args:=#[Operand.tmp 152,Operand.tmp 154],argTypes:=#[22,22]},none⟩,
 ⟨some 17,Op.assign (Operand.tmp 155),none⟩])))))
/-- The body of a loop. -/
def k32_l4 : Code1 :=
 (.seq
 (.region [] false ([]) [
 ⟨some 161,Op.binOp BinOp.lss 3 (Operand.tmp 160) (Operand.tmp 159) 3,none⟩])
 (.seq
 (.cond (Operand.tmp 161)
 .skip
 (.exit 8))
 (.seq
 (.block 9
 (.seq
 (.region [] false ([]) [
 ⟨some 162,Op.indexAddr 22 (Operand.tmp 158) (Operand.tmp 160),none⟩,
 ⟨some 163,Op.load 2 (Operand.tmp 162),none⟩,
 ⟨some 20,Op.assign (Operand.tmp 163),none⟩])
 (.region [171,172] false ([]) [
 ⟨some 164,Op.move (Operand.tmp 13),none⟩,
 ⟨some 165,Op.move (Operand.tmp 15),none⟩,
 ⟨some 166,Op.nilCheck (Operand.tmp 165),none⟩,
 ⟨some 167,Op.fieldAddr 147 (Operand.tmp 166) 0,none⟩,
 ⟨some 168,Op.load 145 (Operand.tmp 167),none⟩,
 ⟨some 169,Op.move (Operand.tmp 20),none⟩,
 ⟨some 170,Op.lookup 145 (Operand.tmp 168) (Operand.tmp 169) false,none⟩,
 ⟨some 171,Op.buildSlice 149 1 #[(0,Operand.tmp 170)],none⟩,
 ⟨some 172,Op.call {callee:=Callee.builtin Builtin.append,args:=#[Operand.tmp 164,Operand.tmp 171],argTypes:=#[149,149]},none⟩,
 ⟨some 13,Op.assign (Operand.tmp 172),none⟩])))
 (.region [] false ([]) [
 ⟨some 173,Op.binOp BinOp.add 3 (Operand.tmp 160) (Operand.const (Value.int IntKind.i64 1)) 3,none⟩,
 ⟨some 160,Op.move (Operand.tmp 173),none⟩]))))
/-- The body of a loop. -/
def k32_l2 : Code1 :=
 (.seq
 (.seq
 (.region [] false ([]) [
 ⟨some 102,Op.move (Operand.tmp 14),none⟩,
 ⟨some 103,Op.move (Operand.tmp 13),none⟩,
 ⟨some 104,Op.call {callee:=Callee.builtin Builtin.len,args:=#[Operand.tmp 103],argTypes:=#[149]},none⟩,
 ⟨some 105,Op.binOp BinOp.lss 3 (Operand.tmp 102) (Operand.tmp 104) 3,none⟩])
 (.cond (Operand.tmp 105)
 .skip
 (.exit 4)))
 (.seq
 (.block 5
 (.seq
 (.region [] false ([]) [
 ⟨some 108,Op.move (Operand.tmp 13),none⟩,
 ⟨some 109,Op.move (Operand.tmp 14),none⟩,
 ⟨some 110,Op.indexAddr 149 (Operand.tmp 108) (Operand.tmp 109),none⟩,
 ⟨some 111,Op.load 143 (Operand.tmp 110),none⟩,
 ⟨some 15,Op.assign (Operand.tmp 111),none⟩])
 (.seq
 (.region [] false ([]) [
 ⟨some 112,Op.move (Operand.tmp 15),none⟩,
 ⟨some 113,Op.move (Operand.tmp 14),none⟩,
 ⟨some 114,Op.nilCheck (Operand.tmp 112),none⟩,
 ⟨some 115,Op.fieldAddr 147 (Operand.tmp 114) 5,none⟩,
 ⟨none,Op.store 2 (Operand.tmp 115) (Operand.tmp 113),none⟩])
 (.seq
 (.region [] false ([]) [
 ⟨some 16,Op.assign (Operand.const (Value.int IntKind.i64 (-1))),none⟩])
 (.seq
 (.seq
 (.region [] false ([]) [
 ⟨some 116,Op.move (Operand.tmp 15),none⟩,
 ⟨some 117,Op.nilCheck (Operand.tmp 116),none⟩,
 ⟨some 118,Op.fieldAddr 147 (Operand.tmp 117) 3,none⟩,
 ⟨some 119,Op.load 143 (Operand.tmp 118),none⟩,
 ⟨some 120,Op.binOp BinOp.neq 143 (Operand.tmp 119) (Operand.const (Value.pointer none)) 143,none⟩])
 (.cond (Operand.tmp 120)
 (.region [] false ([]) [
 ⟨some 121,Op.move (Operand.tmp 15),none⟩,
 ⟨some 122,Op.nilCheck (Operand.tmp 121),none⟩,
 ⟨some 123,Op.fieldAddr 147 (Operand.tmp 122) 3,none⟩,
 ⟨some 124,Op.load 143 (Operand.tmp 123),none⟩,
 ⟨some 125,Op.nilCheck (Operand.tmp 124),none⟩,
 ⟨some 126,Op.fieldAddr 147 (Operand.tmp 125) 5,none⟩,
 ⟨some 127,Op.load 2 (Operand.tmp 126),none⟩,
 ⟨some 16,Op.assign (Operand.tmp 127),none⟩])
 .skip))
 (.seq
 (.region [131,132] false ([]) [
 ⟨some 128,Op.fieldAddr 61 (Operand.tmp 12) 0,none⟩,
 ⟨some 129,Op.load 22 (Operand.tmp 128),none⟩,
 ⟨some 130,Op.move (Operand.tmp 16),none⟩,
 ⟨some 131,Op.buildSlice 22 1 #[(0,Operand.tmp 130)],none⟩,
 ⟨some 132,Op.call {callee:=Callee.builtin Builtin.append,args:=#[Operand.tmp 129,Operand.tmp 131],argTypes:=#[22,22]},none⟩,
 ⟨some 133,Op.fieldAddr 61 (Operand.tmp 12) 0,none⟩,
 ⟨none,Op.store 22 (Operand.tmp 133) (Operand.tmp 132),none⟩])
 (.seq
 (.region [140,141] true ([141]) [
 ⟨some 134,Op.fieldAddr 61 (Operand.tmp 12) 1,none⟩,
 ⟨some 135,Op.load 22 (Operand.tmp 134),none⟩,
 ⟨some 136,Op.move (Operand.tmp 15),none⟩,
 ⟨some 137,Op.nilCheck (Operand.tmp 136),none⟩,
 ⟨some 138,Op.fieldAddr 147 (Operand.tmp 137) 4,none⟩,
 ⟨some 139,Op.load 2 (Operand.tmp 138),none⟩,
 ⟨some 140,Op.buildSlice 22 1 #[(0,Operand.tmp 139)],none⟩,
 ⟨some 141,Op.call {callee:=Callee.builtin Builtin.append,args:=#[Operand.tmp 135,Operand.tmp 140],argTypes:=#[22,22]},none⟩,
 ⟨some 142,Op.fieldAddr 61 (Operand.tmp 12) 1,none⟩,
 ⟨none,Op.store 22 (Operand.tmp 142) (Operand.tmp 141),none⟩])
 (.seq
 (.region [] false ([]) [
 ⟨some 17,Op.assign (Operand.const (Value.slice none 0 0)),none⟩])
 (.seq
 (.seq
 (.region [] false ([]) [
 ⟨some 143,Op.move (Operand.tmp 15),none⟩,
 ⟨some 144,Op.nilCheck (Operand.tmp 143),none⟩,
 ⟨some 145,Op.fieldAddr 147 (Operand.tmp 144) 0,none⟩,
 ⟨some 146,Op.load 145 (Operand.tmp 145),none⟩,
 ⟨some 147,Op.range 145 (Operand.tmp 146),none⟩])
 (.block 6
 (.loop k32_l3)))
 (.seq
 (.region [157] false ([]) [
 ⟨some 156,Op.move (Operand.tmp 17),none⟩,
 ⟨some 157,Op.call {callee:=Callee.value (Operand.func 100),args:=#[Operand.tmp 156],argTypes:=#[22]},none⟩])
 (.seq
 (.region [] false ([]) [
 ⟨some 158,Op.move (Operand.tmp 17),none⟩,
 ⟨some 159,Op.call {callee:=Callee.builtin Builtin.len,args:=#[Operand.tmp 158],argTypes:=#[22]},none⟩,
 ⟨some 160,Op.move (Operand.const (Value.int IntKind.i64 0)),none⟩])
 (.block 8
 (.loop k32_l4)))))))))))))
 (.region [] false ([]) [
 ⟨some 106,Op.move (Operand.tmp 14),none⟩,
 ⟨some 107,Op.binOp BinOp.add 3 (Operand.tmp 106) (Operand.const (Value.int IntKind.i64 1)) 3,none⟩,
 ⟨some 14,Op.assign (Operand.tmp 107),none⟩])))
/-- The body of a loop. -/
def k32_l5 : Code1 :=
 (.seq
 (.region [] false ([]) [
 ⟨some 183,Op.binOp BinOp.lss 3 (Operand.tmp 182) (Operand.tmp 181) 3,none⟩])
 (.seq
 (.cond (Operand.tmp 183)
 .skip
 (.exit 10))
 (.seq
 (.block 11
 (.seq
 (.region [] false ([]) [
 ⟨some 184,Op.move (Operand.tmp 182),none⟩,
 ⟨some 185,Op.indexAddr 149 (Operand.tmp 180) (Operand.tmp 182),none⟩,
 ⟨some 186,Op.load 143 (Operand.tmp 185),none⟩,
 ⟨some 21,Op.assign (Operand.tmp 184),none⟩,
 ⟨some 22,Op.assign (Operand.tmp 186),none⟩])
 (.seq
 (.region [] true ([]) [
 ⟨some 187,Op.move (Operand.tmp 22),none⟩,
 ⟨some 188,Op.nilCheck (Operand.tmp 187),none⟩,
 ⟨some 189,Op.fieldAddr 147 (Operand.tmp 188) 1,none⟩,
 ⟨some 190,Op.load 4 (Operand.tmp 189),none⟩,
 ⟨some 191,Op.move (Operand.tmp 22),none⟩,
 ⟨some 192,Op.nilCheck (Operand.tmp 191),none⟩,
 ⟨some 193,Op.fieldAddr 147 (Operand.tmp 192) 2,none⟩,
 ⟨some 194,Op.load 2 (Operand.tmp 193),none⟩,
 ⟨some 23,Op.assign (Operand.tmp 190),none⟩,
 ⟨some 24,Op.assign (Operand.tmp 194),none⟩])
 (.seq
 (.seq
 (.region [] false ([]) [
 ⟨some 195,Op.move (Operand.tmp 21),none⟩,
 ⟨some 196,Op.binOp BinOp.gtr 3 (Operand.tmp 195) (Operand.const (Value.int IntKind.i64 0)) 3,none⟩])
 (.cond (Operand.tmp 196)
 (.seq
 (.region [] false ([]) [
 ⟨some 197,Op.fieldAddr 61 (Operand.tmp 12) 2,none⟩,
 ⟨some 198,Op.load 22 (Operand.tmp 197),none⟩,
 ⟨some 199,Op.move (Operand.tmp 21),none⟩,
 ⟨some 200,Op.indexAddr 22 (Operand.tmp 198) (Operand.tmp 199),none⟩,
 ⟨some 201,Op.load 2 (Operand.tmp 200),none⟩,
 ⟨some 25,Op.assign (Operand.tmp 201),none⟩])
 (.seq
 (.region [] false ([]) [
 ⟨some 202,Op.move (Operand.tmp 23),none⟩,
 ⟨some 203,Op.move (Operand.tmp 202),none⟩,
 ⟨some 204,Op.fieldAddr 61 (Operand.tmp 12) 4,some (203,false)⟩,
 ⟨some 205,Op.load 59 (Operand.tmp 204),some (203,false)⟩,
 ⟨some 206,Op.move (Operand.tmp 25),some (203,false)⟩,
 ⟨some 207,Op.indexAddr 59 (Operand.tmp 205) (Operand.tmp 206),some (203,false)⟩,
 ⟨some 208,Op.load 4 (Operand.tmp 207),some (203,false)⟩,
 ⟨some 209,Op.pick (Operand.tmp 203) (Operand.const (Value.bool true)) (Operand.tmp 208),none⟩,
 ⟨some 23,Op.assign (Operand.tmp 209),none⟩])
 (.region [216] false ([]) [
 ⟨some 210,Op.move (Operand.tmp 24),none⟩,
 ⟨some 211,Op.fieldAddr 61 (Operand.tmp 12) 3,none⟩,
 ⟨some 212,Op.load 22 (Operand.tmp 211),none⟩,
 ⟨some 213,Op.move (Operand.tmp 25),none⟩,
 ⟨some 214,Op.indexAddr 22 (Operand.tmp 212) (Operand.tmp 213),none⟩,
 ⟨some 215,Op.load 2 (Operand.tmp 214),none⟩,
 ⟨some 216,Op.call {callee:=Callee.value (Operand.func 99),args:=#[Operand.tmp 210,Operand.tmp 215],argTypes:=#[2,2]},none⟩,
 ⟨some 24,Op.assign (Operand.tmp 216),none⟩])))
 .skip))
 (.seq
 (.region [220,221] false ([]) [
 ⟨some 217,Op.fieldAddr 61 (Operand.tmp 12) 4,none⟩,
 ⟨some 218,Op.load 59 (Operand.tmp 217),none⟩,
 ⟨some 219,Op.move (Operand.tmp 23),none⟩,
 ⟨some 220,Op.buildSlice 59 1 #[(0,Operand.tmp 219)],none⟩,
 ⟨some 221,Op.call {callee:=Callee.builtin Builtin.append,args:=#[Operand.tmp 218,Operand.tmp 220],argTypes:=#[59,59]},none⟩,
 ⟨some 222,Op.fieldAddr 61 (Operand.tmp 12) 4,none⟩,
 ⟨none,Op.store 59 (Operand.tmp 222) (Operand.tmp 221),none⟩])
 (.region [226,227] false ([]) [
 ⟨some 223,Op.fieldAddr 61 (Operand.tmp 12) 3,none⟩,
 ⟨some 224,Op.load 22 (Operand.tmp 223),none⟩,
 ⟨some 225,Op.move (Operand.tmp 24),none⟩,
 ⟨some 226,Op.buildSlice 22 1 #[(0,Operand.tmp 225)],none⟩,
 ⟨some 227,Op.call {callee:=Callee.builtin Builtin.append,args:=#[Operand.tmp 224,Operand.tmp 226],argTypes:=#[22,22]},none⟩,
 ⟨some 228,Op.fieldAddr 61 (Operand.tmp 12) 3,none⟩,
 ⟨none,Op.store 22 (Operand.tmp 228) (Operand.tmp 227),none⟩]))))))
 (.region [] false ([]) [
 ⟨some 229,Op.binOp BinOp.add 3 (Operand.tmp 182) (Operand.const (Value.int IntKind.i64 1)) 3,none⟩,
 ⟨some 182,Op.move (Operand.tmp 229),none⟩]))))
/-- The code of impl.BuildAuto, its loops' bodies named. -/
def k32 : Code1 :=
 (.seq
 (.region [2] false ([]) [
 ⟨some 2,Op.alloc 63,none⟩])
 (.seq
 (.seq
 (.region [27] false ([]) [
 ⟨some 26,Op.move (Operand.tmp 0),none⟩,
 ⟨some 27,Op.call {callee:=Callee.value (Operand.func 97),args:=#[Operand.tmp 26],argTypes:=#[65]},none⟩,
 ⟨some 28,Op.unOp UnOp.not 4 (Operand.tmp 27),none⟩])
 (.cond (Operand.tmp 28)
 (.seq
 (.region [] false ([]) [
 ⟨some 29,Op.build 63 #[(0,Operand.const (Value.int IntKind.i64 12))],none⟩,
 ⟨none,Op.store 63 (Operand.tmp 2) (Operand.tmp 29),none⟩])
 .ret)
 .skip))
 (.seq
 (.region [30] false ([]) [
 ⟨some 30,Op.call {callee:=Callee.value (Operand.func 98),args:=#[Operand.const (Value.pointer none),Operand.const (Value.int IntKind.i64 (-1))],argTypes:=#[143,2]},none⟩,
 ⟨some 3,Op.assign (Operand.tmp 30),none⟩])
 (.seq
 (.region [] false ([]) [
 ⟨some 4,Op.assign (Operand.const (Value.int IntKind.i64 1)),none⟩])
 (.seq
 (.seq
 (.region [] false ([]) [
 ⟨some 31,Op.move (Operand.tmp 0),none⟩,
 ⟨some 32,Op.call {callee:=Callee.builtin Builtin.len,args:=#[Operand.tmp 31],argTypes:=#[65]},none⟩,
 ⟨some 33,Op.move (Operand.const (Value.int IntKind.i64 0)),none⟩])
 (.block 0
 (.loop k32_l0)))
 (.seq
 (.region [12] false ([]) [
 ⟨some 99,Op.build 61 #[],none⟩,
 ⟨some 12,Op.alloc 61,none⟩,
 ⟨none,Op.store 61 (Operand.tmp 12) (Operand.tmp 99),none⟩])
 (.seq
 (.region [101] false ([]) [
 ⟨some 100,Op.move (Operand.tmp 3),none⟩,
 ⟨some 101,Op.buildSlice 149 1 #[(0,Operand.tmp 100)],none⟩,
 ⟨some 13,Op.assign (Operand.tmp 101),none⟩])
 (.seq
 (.seq
 (.region [] false ([]) [
 ⟨some 14,Op.assign (Operand.const (Value.int IntKind.i64 0)),none⟩])
 (.block 4
 (.loop k32_l2)))
 (.seq
 (.region [178] false ([]) [
 ⟨some 174,Op.fieldAddr 61 (Operand.tmp 12) 0,none⟩,
 ⟨some 175,Op.load 22 (Operand.tmp 174),none⟩,
 ⟨some 176,Op.fieldAddr 61 (Operand.tmp 12) 1,none⟩,
 ⟨some 177,Op.load 22 (Operand.tmp 176),none⟩,
 ⟨some 178,Op.call {callee:=Callee.value (Operand.func 101),args:=#[Operand.tmp 175,Operand.tmp 177],argTypes:=#[22,22]},none⟩,
 ⟨some 179,Op.fieldAddr 61 (Operand.tmp 12) 2,none⟩,
 ⟨none,Op.store 22 (Operand.tmp 179) (Operand.tmp 178),none⟩])
 (.seq
 (.seq
 (.region [] false ([]) [
 ⟨some 180,Op.move (Operand.tmp 13),none⟩,
 ⟨some 181,Op.call {callee:=Callee.builtin Builtin.len,args:=#[Operand.tmp 180],argTypes:=#[149]},none⟩,
 ⟨some 182,Op.move (Operand.const (Value.int IntKind.i64 0)),none⟩])
 (.block 10
 (.loop k32_l5)))
 (.seq
 (.region [] false ([]) [
 ⟨some 230,Op.load 61 (Operand.tmp 12),none⟩,
 ⟨some 231,Op.build 63 #[(1,Operand.tmp 230)],none⟩,
 ⟨none,Op.store 63 (Operand.tmp 2) (Operand.tmp 231),none⟩])
 .ret)))))))))))
section
variable {w0 w w' : World} {S0 S : Nat → Prop} {own : List Nat} {H : Nat → Nat × Nat} {X : Nat → Value} {N : Nat} {m cap : Id → Nat} {st : St} {a a0 : Act} {b clock : Nat} {es : Array MapEntry} {ds : List MapEntry}
/-- The temporaries that the loop writes. -/
def tsK : List Nat := [17, 18, 143, 144, 145, 146, 147, 148, 149, 150, 151, 152, 153, 154, 155]
abbrev RKt (N : Nat) (a0 : Act) (w : World) (b clock : Nat) (es : Array MapEntry) (a : Act) (w' : World) (ds : List MapEntry) : Prop := RK N a0 tsK w b clock es 147 17 2 a w' ds
theorem RK.put {ti tk : Nat} {ts : List Nat} {e : TypeId} (h : RK N a0 ts w b clock es ti tk e a w' ds) {t : Nat} {u : Value} (ht : t ∈ ts) (h1 : t ≠ ti) (h2 : t ≠ tk) : RK N a0 ts w b clock es ti tk e (a.put (some t) u) w' ds := by
  refine ⟨by rw [put_size]; exact h.size, by rw [put_defers]; exact h.defers, fun t' ht' => ?_, h.below, h.it, ?_, ?_, h.sub, h.nd, ?_⟩
  · rw [put_getD, if_neg (by rintro ⟨rfl, _⟩; exact ht' ht)]
    exact h.tms t' ht'
  · rw [eval_tmp, put_getD, if_neg (fun q => h1 q.1.symm)]
    exact h.ptr
  · rw [eval_tmp, put_getD, if_neg (fun q => h2 q.1.symm)]
    exact h.row
  · rw [eval_tmp, put_getD, if_neg (fun q => h2 q.1.symm)]
    exact h.nil
theorem ok_dst {lo : Nat → List Nat} {id : Nat} {ops : Array Oper} {o : Oper} (h : okCode2 N lo (.region id ops false) = true) (ho : o ∈ ops.toList) {t : Nat} (ht : o.dst = some t) : t < N := by
  unfold okCode2 okRegion2 at h
  simp only [Bool.and_eq_true, List.all_eq_true] at h
  exact okOper_lt (h.1.1 o ho) ht
theorem ops_eq {ops : Array Oper} {l : List Oper} (h : ops.toList = l) : ops = l.toArray := by
  apply Array.toList_inj.1
  rw [h]
/-- 'next', as an operation. -/
theorem exec_next {o : Oper} (ho : o.op = .next (.tmp 147) false) {v : Value} {u : Value} (hv : a.eval (.tmp 147) = v) (hr : (Instr.next v false o.type).run Try.prog w = .ok u w') : (execOp a.eval o).run Try.prog w = .ok (.value u) w' := by
  simp [execOp, ho, hv, hr]
theorem exec_entry {o : Oper} (ho : o.op = .entry (.tmp 147)) {v : Value} {u : Value} (hv : a.eval (.tmp 147) = v) (hr : (Instr.entry v).run Try.prog w = .ok u w') : (execOp a.eval o).run Try.prog w = .ok (.value u) w' := by
  simp [execOp, ho, hv, hr]
theorem exec_extract0 {o : Oper} {t : Nat} (ho : o.op = .extract (.tmp t) 0) {x : Value} {l : List Value} (hv : a.eval (.tmp t) = .tuple (x :: l).toArray) : (execOp a.eval o).run Try.prog w = .ok (.value x) w := by
  simp [execOp, ho, hv, Instr.extract]
theorem exec_range {o : Oper} {t : TypeId} (ho : o.op = .range t (.tmp 146)) {v u : Value} (hv : a.eval (.tmp 146) = v) (hr : (Instr.range t v).run Try.prog w = .ok u w') : (execOp a.eval o).run Try.prog w = .ok (.value u) w' := by
  simp [execOp, ho, hv, hr]
theorem exec_lit {o : Oper} (ho : o.op = .buildSlice 22 1 #[(0, .tmp 153)]) {n : Int} (hv : a.eval (.tmp 153) = .int .i64 n) : (execOp a.eval o).run Try.prog w = .ok (.value (.slice (some ⟨w.heap.size, 0, none⟩) 1 1)) (w.alloc (.cells #[.int .i64 n] 2)) := by
  obtain ⟨inf, dd, z, q1, q2, q3, q4, q5, q6, q7⟩ := tinf_inv ti_2
  simp only at q4 q5 q6 q7
  have hz : z.cells = #[.int .i64 0] := by
    apply Array.toList_inj.1
    rw [← q7]
  have := run_buildSlice (P := Try.prog) w 22 2 1 #[(0, .int .i64 n)] #[.int .i64 n] inf z (by kernel_rfl) q1 q3 (by rw [← q5]; decide) (by rw [← q5]; decide) (by
    rw [← q5, hz]
    simp [Instr.fill, Value.cells]
    apply Array.ext
    · simp
    · intro i h1 h2
      simp at h1
      subst h1
      simp)
  simp [execOp, ho, hv, this]
theorem exec_append {o : Oper} {n : Nat} {xs : List Value} {base g : Nat} {x : Int} (ho : o.op = .call ⟨.builtin .append, #[.tmp 152, .tmp 154], #[22, 22]⟩) {v : Value} (hv : a.eval (.tmp 152) = v) (h2 : a.eval (.tmp 154) = .slice (some ⟨g, 0, none⟩) 1 1)
    (hrow : w.ownsRow base 2 1 v n xs) (hg : w.cell? ⟨g, 0, none⟩ = some (.int .i64 x)) (hn : n ≤ 1000000) (hb : base ≤ w.heap.size) :
    ∃ v' w', (execOp a.eval o).run Try.prog w = .ok (.value v') w' ∧ w'.ownsRow base 2 1 v' (n + 1) (xs ++ [.int .i64 x]) ∧ w.grownBy w' v.ownBlock ∧ v' ≠ .slice none 0 0 := by
  obtain ⟨inf, dd, z, q1, q2, q3, q4, q5, q6, q7⟩ := tinf_inv ti_2
  simp only at q4 q5 q6 q7
  have hz : z.cells.size = 1 := by rw [← Array.length_toList, ← q7]; rfl
  obtain ⟨v', w', e1, e2, e3, e4⟩ := run_append_own (P := Try.prog) w base 22 o.type 2 inf z 1 8 (by kernel_rfl) q1 q3 (by rw [← q5]) (by rw [← q6]) hz (by omega) v n xs hrow ⟨g, 0, none⟩ 1 1 [.int .i64 x] rfl (fun j u hj => by
    cases j with
    | zero => simp at hj; subst hj; exact hg
    | succ j => simp at hj) (by simp [Value.oneCell']) (by unfold maxLen; omega) (by omega) hb
  refine ⟨v', w', ?_, e2, e3, fun hh => by have := (e4.1 hh).2; omega⟩
  simp [execOp, ho, resolve, invoke, builtin, hv, h2, e1]
theorem ev_put_same {t : Nat} {u : Value} (h : t < a.tmps.size) : (a.put (some t) u).eval (.tmp t) = u := by rw [eval_tmp, put_getD, if_pos ⟨rfl, h⟩]
theorem ev_put_ne {t t' : Nat} {u : Value} (h : t' ≠ t) : (a.put (some t) u).eval (.tmp t') = a.eval (.tmp t') := by rw [eval_tmp, put_getD, if_neg (fun q => h q.1)]; rfl
theorem grownBy_set {w w1 : World} {r : Nat} {o : Obj} (hw : w1 = w ∨ w1 = w.drew) (hr : r < w.heap.size) : w.grownBy (setBlock w1 r o) (some r) := by
  have := setBlock_below (B := r) (o := o) hw hr (Nat.le_refl _)
  refine ⟨this.os, this.tape, this.output, this.size, fun k hk hne => ?_⟩
  have hr1 : r < w1.heap.size := by rcases hw with rfl | rfl <;> exact hr
  rw [setBlock_heap hr1, if_neg (fun e => hne (by rw [e]))]
  rcases hw with rfl | rfl <;> rfl
set_option maxHeartbeats 1000000 in
theorem round_l3 {lo : Nat → List Nat} {yl : Code} (hy : comp lo yl = some k32_l3) (hok : okCode2 N lo yl = true) (hst : Stamped es clock) (hbm : w.heap[b]? = some (.map es clock)) (hint : ∀ x ∈ es.toList, ∃ n : Int, x.key = .int .i64 n) (hsz : es.size ≤ 1000000)
    {R : Exit → Act → World → Prop} (hN : ∀ a' w2 ds', RKt N a0 w b clock es a' w2 ds' → ds'.length = ds.length + 1 → R .normal a' w2) (hE : ∀ a', RKt N a0 w b clock es a' w' ds → ds.Perm es.toList → R (.exit 6) a' w')
    (h : RKt N a0 w b clock es a w' ds) : yl.wp Try.prog R a w' := by
  unfold k32_l3 at hy
  obtain ⟨n1, y2, rfl, hn1, hy2⟩ := comp_seq hy
  obtain ⟨idn, opsn, rfl, hopsn⟩ := comp_region hn1
  obtain ⟨yc, y3, rfl, hyc, hy3⟩ := comp_seq hy2
  obtain ⟨yt, yf, rfl, ht, hf⟩ := comp_cond hyc
  obtain rfl := comp_skip ht
  obtain rfl := comp_exit hf
  obtain ⟨y4, rfl, hy4⟩ := comp_block hy3
  obtain ⟨y5, y6, rfl, hy5, hy6⟩ := comp_seq hy4
  obtain ⟨ide, opse, rfl, hopse⟩ := comp_region hy5
  obtain ⟨ida, opsa, rfl, hopsa⟩ := comp_region hy6
  simp only [okCode2, Bool.and_eq_true] at hok
  obtain ⟨ok1, ⟨_, ok2, ok3⟩⟩ := hok
  replace ok1 : okCode2 N lo (.region idn opsn false) = true := ok1
  replace ok2 : okCode2 N lo (.region ide opse false) = true := ok2
  replace ok3 : okCode2 N lo (.region ida opsa false) = true := ok3
  obtain ⟨p1, l1, e1, d1, b1, g1, hopsn⟩ := comps_cons hopsn
  obtain ⟨p2, l2, rfl, d2, b2, g2, hopsn⟩ := comps_cons hopsn
  obtain rfl := comps_nil hopsn
  obtain ⟨q1, l3, e3, d3, b3, g3, hopse⟩ := comps_cons hopse
  obtain ⟨q2, l4, rfl, d4, b4, g4, hopse⟩ := comps_cons hopse
  obtain ⟨q3, l5, rfl, d5, b5, g5, hopse⟩ := comps_cons hopse
  obtain rfl := comps_nil hopse
  obtain ⟨r1, l6, e6, d6, b6, g6, hopsa⟩ := comps_cons hopsa
  obtain ⟨r2, l7, rfl, d7, b7, g7, hopsa⟩ := comps_cons hopsa
  obtain ⟨r3, l8, rfl, d8, b8, g8, hopsa⟩ := comps_cons hopsa
  obtain ⟨r4, l9, rfl, d9, b9, g9, hopsa⟩ := comps_cons hopsa
  obtain ⟨r5, l10, rfl, d10, b10, g10, hopsa⟩ := comps_cons hopsa
  obtain rfl := comps_nil hopsa
  have n155 : 155 < N := ok_dst ok3 (by rw [e6]; simp) d9
  obtain rfl := ops_eq e1
  obtain rfl := ops_eq e3
  obtain rfl := ops_eq e6
  have sz := h.size
  obtain ⟨c, hc, hit⟩ := h.it
  have hB := h.below
  have hblt : b < w.heap.size := (Array.getElem?_eq_some_iff.1 hbm).1
  have hBlt : w.heap.size < w'.heap.size := (Array.getElem?_eq_some_iff.1 hit).1
  have hbm' : w'.heap[b]? = some (.map es clock) := (hB.block b hblt).trans hbm
  refine wp_seq (wp_region ?_)
  show wpOps Try.prog #[p1, p2] _ [0, 1] a w'
  rcases run_next_at (P := Try.prog) w' p1.type w.heap.size b clock c _ es clock hit hbm' hst.1 hc with ⟨h0, hrun⟩ | ⟨e, he, w1, hw1, hrun⟩
  · refine opRun (o := p1) rfl g1 (exec_next b1 h.ptr hrun) ?_
    rw [d1]
    refine opRun (o := p2) rfl g2 (exec_extract0 (t := 148) (x := .bool false) (l := []) b2 (ev_put_same (by omega))) ?_
    rw [d2]
    refine wp_seq (wp_cond_false (ev_put_same (by rw [put_size]; omega)) (wp_exit ?_))
    exact hE _ ((h.put (by decide) (by decide) (by decide)).put (by decide) (by decide) (by decide)) (h.all hst.2 h0)
  · have hw2 : Below w.heap.size w' (setBlock w1 w.heap.size (.mapIter (some b) clock ((ds.map (·.born)).toArray.push e.born) clock)) := setBlock_below hw1 hBlt (Nat.le_refl _)
    have hg2 : w'.grownBy (setBlock w1 w.heap.size (.mapIter (some b) clock ((ds.map (·.born)).toArray.push e.born) clock)) (some w.heap.size) := grownBy_set hw1 hBlt
    have hit2 : (setBlock w1 w.heap.size (.mapIter (some b) clock ((ds.map (·.born)).toArray.push e.born) clock)).heap[w.heap.size]? = some (.mapIter (some b) clock ((ds.map (·.born)).toArray.push e.born) clock) := by
      rw [setBlock_heap (by rcases hw1 with rfl | rfl <;> exact hBlt), if_pos rfl]
    generalize setBlock w1 w.heap.size (.mapIter (some b) clock ((ds.map (·.born)).toArray.push e.born) clock) = w2 at *
    have hle := h.len
    have hel : e ∈ es.toList ∧ e.born ∉ ds.map (·.born) := by
      unfold leftOf at he
      simp at he
      refine ⟨by simpa using he.1, ?_⟩
      intro hm
      obtain ⟨x, hx, hxe⟩ := List.mem_map.1 hm
      exact he.2 x hx hxe
    obtain ⟨n, hn⟩ := hint e hel.1
    have hbm2 : w2.heap[b]? = some (.map es clock) := (hw2.block b hblt).trans hbm'
    have hrow2 := h.row.kept hg2 (by
      cases hv : (a.eval (.tmp 17)).ownBlock with
      | none => exact .inl rfl
      | some k =>
        refine .inr fun e => ?_
        cases e
        have := (h.row.lt _ hv).1
        omega)
    refine opRun (o := p1) rfl g1 (exec_next b1 h.ptr hrun) ?_
    rw [d1]
    refine opRun (o := p2) rfl g2 (exec_extract0 (t := 148) (x := .bool true) (l := [e.key, e.val]) b2 (ev_put_same (by omega))) ?_
    rw [d2]
    refine wp_seq (wp_cond_true (ev_put_same (by rw [put_size]; omega)) (wp_skip ?_))
    refine wp_block (wp_seq (wp_region ?_))
    show wpOps Try.prog #[q1, q2, q3] _ [0, 1, 2] _ w2
    have hptr2 : ((a.put (some 148) (.tuple #[.bool true, e.key, e.val])).put (some 149) (.bool true)).eval (.tmp 147) = .pointer (some ⟨w.heap.size, 0, none⟩) := by
      rw [ev_put_ne (by decide), ev_put_ne (by decide)]
      exact h.ptr
    refine opRun (o := q1) rfl g3 (exec_entry b3 hptr2 (run_entry_at w2 w.heap.size b clock _ es clock e hit2 hbm2 hel.1 hst.2)) ?_
    rw [d3]
    refine opRun (o := q2) rfl g4 (exec_extract0 (t := 150) (x := e.key) (l := [e.val]) b4 (ev_put_same (by rw [put_size, put_size]; omega))) ?_
    rw [d4]
    refine opRun (o := q3) rfl g5 (still_move (.inr b5)) ?_
    rw [d5, ev_put_same (by rw [put_size, put_size, put_size]; omega), hn]
    refine wp_region ?_
    show wpOps Try.prog #[r1, r2, r3, r4, r5] _ [0, 1, 2, 3, 4] _ w2
    refine opRun (o := r1) rfl g6 (still_move (.inl b6)) ?_
    rw [d6]
    refine opRun (o := r2) rfl g7 (still_move (.inl b7)) ?_
    rw [d7]
    generalize hA : ((((a.put (some 148) (.tuple #[.bool true, Value.int .i64 n, e.val])).put (some 149) (.bool true)).put (some 150) (.tuple #[Value.int .i64 n, e.val])).put (some 151) (Value.int .i64 n)).put (some 18) (Value.int .i64 n) = a5
    have s5 : a5.tmps.size = N := by rw [← hA]; simp only [put_size]; exact sz
    have f5 : a5.defers = [] := by rw [← hA]; simp only [put_defers]; exact h.defers
    have v18 : a5.eval (.tmp 18) = .int .i64 n := by rw [← hA]; exact ev_put_same (by simp only [put_size]; omega)
    have v17 : a5.eval (.tmp 17) = a.eval (.tmp 17) := by rw [← hA, ev_put_ne (by decide), ev_put_ne (by decide), ev_put_ne (by decide), ev_put_ne (by decide), ev_put_ne (by decide)]
    have v147 : a5.eval (.tmp 147) = .pointer (some ⟨w.heap.size, 0, none⟩) := by rw [← hA, ev_put_ne (by decide), ev_put_ne (by decide), ev_put_ne (by decide), ev_put_ne (by decide), ev_put_ne (by decide)]; exact h.ptr
    have t5 : ∀ t, t ∉ tsK → a5.tmps.getD t undef = a0.tmps.getD t undef := by
      intro t ht
      rw [← h.tms t ht, ← hA]
      have k1 : t ≠ 148 := by rintro rfl; exact ht (by decide)
      have k2 : t ≠ 149 := by rintro rfl; exact ht (by decide)
      have k3 : t ≠ 150 := by rintro rfl; exact ht (by decide)
      have k4 : t ≠ 151 := by rintro rfl; exact ht (by decide)
      have k5 : t ≠ 18 := by rintro rfl; exact ht (by decide)
      simp only [put_getD, k1, k2, k3, k4, k5, false_and, if_false]
    have v17' : (a5.put (some 152) (a5.eval (.tmp 17))).eval (.tmp 18) = .int .i64 n := by rw [ev_put_ne (by decide)]; exact v18
    rw [v17', v17]
    refine opRun (o := r3) rfl g8 (exec_lit b8 (n := n) (ev_put_same (by rw [put_size]; omega))) ?_
    rw [d8]
    have hrow3 := hrow2.alloc (.cells #[.int .i64 n] 2)
    have hcell : (w2.alloc (.cells #[.int .i64 n] 2)).cell? ⟨w2.heap.size, 0, none⟩ = some (.int .i64 n) := by
      unfold World.cell?
      simp only [heap_alloc_new]
      rfl
    have hB2 : w.heap.size + 1 ≤ w2.heap.size := by have := hg2.size; omega
    obtain ⟨v', w4, x1, x2, x3, x4⟩ := exec_append (o := r4) (a := ((a5.put (some 152) (a.eval (.tmp 17))).put (some 153) (.int .i64 n)).put (some 154) (.slice (some ⟨w2.heap.size, 0, none⟩) 1 1)) b9 (by rw [ev_put_ne (by decide), ev_put_ne (by decide), ev_put_same (by omega)]) (by rw [ev_put_same (by rw [put_size, put_size]; omega)]) hrow3 hcell (by omega) (by simp; omega)
    refine opRun (o := r4) rfl g9 x1 ?_
    rw [d9]
    refine opRun (o := r5) rfl g10 (still_move (.inr b10)) ?_
    rw [d10, ev_put_same (by rw [put_size, put_size, put_size]; omega)]
    have lt17 : ∀ k, (a.eval (.tmp 17)).ownBlock = some k → w.heap.size + 1 ≤ k ∧ k < (w2.alloc (.cells #[.int .i64 n] 2)).heap.size := hrow3.lt
    refine hN _ w4 (ds ++ [e]) ⟨by simp only [put_size]; exact s5, by simp only [put_defers]; exact f5, fun t ht => ?_, ?_, ⟨clock, Nat.le_refl _, ?_⟩, ?_, ?_, ?_, ?_, ?_⟩ (by simp)
    · rw [← t5 t ht]
      have k1 : t ≠ 152 := by rintro rfl; exact ht (by decide)
      have k2 : t ≠ 153 := by rintro rfl; exact ht (by decide)
      have k3 : t ≠ 154 := by rintro rfl; exact ht (by decide)
      have k4 : t ≠ 155 := by rintro rfl; exact ht (by decide)
      have k5 : t ≠ 17 := by rintro rfl; exact ht (by decide)
      simp only [put_getD, k1, k2, k3, k4, k5, false_and, if_false]
    · exact ((hB.trans hw2).alloc (by omega) _).grown x3 (by simp; omega) fun k hk => by have := (lt17 k hk).1; omega
    · rw [x3.block _ (by simp; omega) (fun hh => by have := (lt17 _ hh.symm).1; omega), heap_alloc_old _ _ (by omega), hit2]
      simp
    · rw [ev_put_ne (by decide), ev_put_ne (by decide), ev_put_ne (by decide), ev_put_ne (by decide), ev_put_ne (by decide)]
      exact v147
    · rw [ev_put_same (by simp only [put_size]; omega), List.length_append, List.map_append, List.map_singleton, hn]
      exact x2
    · intro x hx
      rcases List.mem_append.1 hx with hx | hx
      · exact h.sub x hx
      · simp at hx
        subst hx
        exact hel.1
    · rw [List.map_append, List.map_singleton]
      refine List.nodup_append.2 ⟨h.nd, by simp, ?_⟩
      rintro x hx y hy rfl
      simp at hy
      subst hy
      exact hel.2 hx
    · rw [ev_put_same (by simp only [put_size]; omega)]
      exact ⟨fun hh => absurd hh x4, fun hh => by simp at hh⟩
end
end Cal

/- impl.BuildAuto: the keys of a map, as a row: the whole loop. -/
set_option linter.unusedSimpArgs false
set_option linter.unusedVariables false
namespace Cal
open Go Go.Proofs Go.RowKit
open Go.ChangeMaps (setBlock)
set_option maxRecDepth 100000
section
variable {w0 w w' : World} {S0 S : Nat → Prop} {own : List Nat} {H : Nat → Nat × Nat} {X : Nat → Value} {N : Nat} {m cap : Id → Nat} {st : St} {a a0 : Act} {b clock : Nat} {es : Array MapEntry} {ds : List MapEntry}
/-- Where the keys' row lies. -/
def idK : Id := (79017, 0)
/-- What the loop leaves. -/
structure AftK (st s : St) : Prop where
  tm : ∀ t, t ∉ tsK → s.tm t = (st.tm t).kill1 idK
  ob : ∀ id, id ≠ idK → s.ob id = (st.ob id).map (Ob.kill1 idK)
  gh : ∀ t, s.gh t = (st.gh t).kill1 idK
theorem ints_perm {es : List MapEntry} {kvs : List (MK × AV)} (h1 : es.map (·.key) = (kvs.map (·.1)).map MK.val) (h2 : ∀ p ∈ kvs, p.1.kind = 0) {ds : List MapEntry} (hp : ds.Perm es) : ∃ ks : List Int, ds.map (·.key) = ks.map (Value.int .i64) ∧ (ks.map MK.i).Perm (kvs.map (·.1)) := by
  have hk : ∃ l : List Int, kvs.map (·.1) = l.map MK.i := by
    clear h1 hp
    induction kvs with
    | nil => exact ⟨[], rfl⟩
    | cons p kvs ih =>
      obtain ⟨l, hl⟩ := ih fun q hq => h2 q (by simp [hq])
      obtain ⟨k, v⟩ := p
      have := h2 (k, v) (by simp)
      cases k with
      | i n => exact ⟨n :: l, by simp [hl]⟩
      | p a b => cases this
      | k s a b => cases this
  obtain ⟨l, hl⟩ := hk
  have h3 : (ds.map (·.key)).Perm (l.map (Value.int .i64)) := by
    have := hp.map (·.key)
    rw [h1, hl, List.map_map] at this
    exact this
  have h4 : ∀ {xs : List Value} {l : List Int}, xs.Perm (l.map (Value.int .i64)) → ∃ ks : List Int, xs = ks.map (Value.int .i64) ∧ ks.Perm l := by
    intro xs l hx
    have all : ∀ x ∈ xs, ∃ n, x = Value.int .i64 n := fun x hm => by
      obtain ⟨n, _, e⟩ := List.mem_map.1 (hx.mem_iff.1 hm)
      exact ⟨n, e.symm⟩
    have : ∃ ks : List Int, xs = ks.map (Value.int .i64) := by
      clear hx
      induction xs with
      | nil => exact ⟨[], rfl⟩
      | cons x xs ih =>
        obtain ⟨ks, e⟩ := ih fun y hy => all y (by simp [hy])
        obtain ⟨n, rfl⟩ := all x (by simp)
        exact ⟨n :: ks, by simp [e]⟩
    obtain ⟨ks, rfl⟩ := this
    refine ⟨ks, rfl, ?_⟩
    have inj : ∀ x : Value, ∀ n, x = Value.int .i64 n → (match x with | .int _ n => n | _ => 0) = n := fun x n e => by subst e; rfl
    have := hx.map (fun x : Value => match x with | .int _ n => n | _ => 0)
    simp only [List.map_map] at this
    have idm : ∀ l : List Int, l.map ((fun x : Value => match x with | .int _ n => n | _ => 0) ∘ Value.int .i64) = l := fun l => by
      induction l with
      | nil => rfl
      | cons a l ih => simp [ih]
    rw [idm, idm] at this
    exact this
  obtain ⟨ks, e1, e2⟩ := h4 h3
  exact ⟨ks, e1, by rw [hl]; exact e2.map _⟩
theorem intRow_reps {S : Nat → Prop} {g : Nat} : ∀ {ks : List Int} {off : Nat}, Holds w g off (ks.map (Value.int .i64)) → Ereps w S g off 1 (intRow ks)
  | [], off, _ => by unfold intRow Ereps; trivial
  | k :: ks, off, h => by
    show Ereps w S g off 1 ([.v (.int .i64 k)] :: intRow ks)
    unfold Ereps
    refine ⟨rfl, ?_, intRow_reps fun j u hj => ?_⟩
    · unfold Creps
      refine ⟨⟨.int .i64 k, ?_, by unfold Trep; exact ⟨rfl, rfl⟩⟩, by unfold Creps; trivial⟩
      have := h 0 _ rfl
      simpa using this
    · have := h (j + 1) u (by simpa using hj)
      rw [show off + 1 + j = off + (j + 1) by omega]
      exact this
set_option maxHeartbeats 1000000 in
theorem rangeK {i : Nat} {cs : List AV} {kvs : List (MK × AV)} {Q : Ex → St → Prop} (h15 : st.tm 15 = .ptr (70100, i) 0 0) (ho : st.ob (70100, i) = some (.var (.mp (70101, i) :: cs))) (hm : st.ob (70101, i) = some (.map 0 kvs)) (h17 : st.tm 17 = .t (.v (.slice none 0 0))) (hl : kvs.length ≤ 1000000)
    (hQ0 : kvs = [] → ∀ s, AftK st s → s.tm 17 = .t (.v (.slice none 0 0)) → Q .normal s)
    (hQ1 : ∀ ks : List Int, ks ≠ [] → (ks.map MK.i).Perm (kvs.map (·.1)) → ∀ s, AftK st s → s.tm 17 = .row idK 1 0 ks.length → s.ob idK = some (.row 1 (intRow ks)) → Q .normal s) :
    wp2 Try.prog (.seq (.region [] false ([]) [⟨some 143, Op.move (Operand.tmp 15), none⟩, ⟨some 144, Op.nilCheck (Operand.tmp 143), none⟩, ⟨some 145, Op.fieldAddr 147 (Operand.tmp 144) 0, none⟩, ⟨some 146, Op.load 145 (Operand.tmp 145), none⟩, ⟨some 147, Op.range 145 (Operand.tmp 146), none⟩]) (.block 6 (.loop k32_l3))) Q st := by
  refine wp2_seqI fun lo x y hx hy w0 S0 own H X N a w hr0 hN okx oky => ?_
  obtain ⟨id, ops, rfl, hops⟩ := comp_region hx
  obtain ⟨yb, rfl, hyb⟩ := comp_block hy
  obtain ⟨yl, rfl, hyl⟩ := comp_loop hyb
  obtain ⟨p1, l1, e1, d1, b1, g1, hops⟩ := comps_cons hops
  obtain ⟨p2, l2, rfl, d2, b2, g2, hops⟩ := comps_cons hops
  obtain ⟨p3, l3, rfl, d3, b3, g3, hops⟩ := comps_cons hops
  obtain ⟨p4, l4, rfl, d4, b4, g4, hops⟩ := comps_cons hops
  obtain ⟨p5, l5, rfl, d5, b5, g5, hops⟩ := comps_cons hops
  obtain rfl := comps_nil hops
  have n147 : 147 < N := ok_dst okx (by rw [e1]; simp) d5
  have lt : ∀ p ∈ [p1, p2, p3, p4, p5], ∀ t, p.dst = some t → t < N := fun p hp t ht => ok_dst okx (by rw [e1]; exact hp) ht
  obtain rfl := ops_eq e1
  obtain ⟨m, cap, S, hr, hH⟩ := hr0
  -- the load
  have r1 := hr.put (d := p1.dst) (lt p1 (by simp)) (v := st.tm 15) (u := a.eval (.tmp 15)) (hr.ev (.tmp 15))
  rw [d1, h15] at r1
  obtain ⟨u2, s2, v2, _⟩ := still_nil (P := Try.prog) b2 r1 (v := .ptr (70100, i) 0 0) (f := []) (by simp [nilA])
  have r2 := r1.put (d := p2.dst) (lt p2 (by simp)) v2
  rw [d2] at r2
  obtain ⟨u3, s3, v3, _⟩ := still_fieldAddr (P := Try.prog) b3 r2 (v := .ptr (70100, i) 0 0) (e := []) (by simp [fieldAddrA])
  have r3 := r2.put (d := p3.dst) (lt p3 (by simp)) v3
  rw [d3] at r3
  obtain ⟨u4, s4, v4⟩ := still_load (P := Try.prog) b4 r3 (v := .mp (70101, i)) ti_145 (by simp [loadA, ho])
  have r4 := r3.put (d := p4.dst) (lt p4 (by simp)) v4
  rw [d4] at r4
  unfold AVrep at v4
  obtain ⟨bm, rfl, hbm⟩ := v4
  have hbm := hbm (by simp [hm])
  obtain ⟨⟨us, ⟨⟨es, clock, m1, m2, m3, m4⟩, m5, m6⟩, m7⟩, m8⟩ := hr.obs (70101, i) _ hm
  rw [← hbm] at m1
  have hlt : bm < w.heap.size := (Array.getElem?_eq_some_iff.1 m1).1
  have hrange := run_range_map (P := Try.prog) w 145 2 143 bm es clock (by kernel_rfl) m1
  have hfin : ∀ a' w' ds, RKt N a w bm clock es a' w' ds → ds.Perm es.toList → RQ w0 S0 own H X N Q .normal a' w' := by
    intro a' w' ds h hp
    have hk : ∀ p ∈ kvs, p.1.kind = 0 := fun p hp => (m6 p.1 (List.mem_map.2 ⟨p, hp, rfl⟩)).1
    obtain ⟨ks, k1, k2⟩ := ints_perm m2 hk hp
    have kl : ds.length = ks.length := by rw [← List.length_map (f := (·.key)), k1, List.length_map]
    have rb := (hr.kill1 idK).blank tsK h.size h.defers h.tms
    have hfree : (blank (st.kill1 idK) tsK).Free (· = idK) := by
      have := St.kill1_free st idK
      refine ⟨fun t => ?_, this.gh, this.avs, this.none⟩
      show (if t ∈ tsK then AV.bad else (st.kill1 idK).tm t).free _
      split
      · unfold AV.free; trivial
      · exact this.tm t
    have hHb : ∀ k, (base + k, 0) ≠ idK := fun k e => by simp [idK, base] at e; omega
    have hrow := h.row
    rw [k1, kl] at hrow
    by_cases hd : ds = []
    · have hv := h.nil.2 hd
      have hk0 : kvs = [] := by
        subst hd
        simp at kl
        obtain rfl : ks = [] := List.eq_nil_of_length_eq_zero kl.symm
        simpa using k2
      have rc := rb.below h.below
      have rd := rc.tm0 (v := .t (.v (.slice none 0 0))) (t := 17) (by rw [← eval_tmp, hv]; exact AVrep_v rfl)
      refine ⟨_, ⟨m, cap, S, rd, hH⟩, hQ0 hk0 _ ⟨fun t ht => ?_, fun id hid => ?_, fun t => rfl⟩ (by simp)⟩
      · have : t ≠ 17 := by rintro rfl; exact ht (by decide)
        simp [blank, this, ht, St.kill1]
      · simp [blank, St.kill1, hid]
    · have hks : ks ≠ [] := by
        rintro rfl
        simp at kl
        exact hd kl
      rcases hrow.2 with ⟨h0, _⟩ | ⟨g, c, cur, hv, hg, hb, hn, hc, hcs, hct⟩
      · exact absurd (h.nil.1 h0) hd
      · have hE : Ereps w' S g 0 1 (intRow ks) := intRow_reps (holds_take hb (by rw [Nat.mul_one] at hct; exact hct))
        have hil : (intRow ks).length = ks.length := by simp [intRow]
        obtain ⟨rn, rv⟩ := RelAt.newRow (w := w) (w' := w') (d := 79017) (sz := 1) (es := intRow ks) rb hfree (g := g) (c := c) (fun i o' hi => by
            have := (rb.obs i o' hi).lt
            omega) (fun hs => by have := hr.stab g hs; omega) (.inl (by have := hr.after.size; omega)) (fun k hk hne => h.below.block k hk) h.below.os h.below.tape h.below.output h.below.size hb hcs (by rw [hil]; exact hn) hc hE
        rw [hil] at rv
        have rd := rn.tm0 (v := .row (79017, 0) 1 0 ks.length) (t := 17) (by rw [← eval_tmp, hv]; exact rv)
        refine ⟨_, ⟨_, _, S, rd, fun k => ?_⟩, hQ1 ks hks k2 _ ⟨fun t ht => ?_, fun id hid => ?_, fun t => rfl⟩ (by simp [idK]) (by simp [St.setOb, idK])⟩
        · have := hHb k
          unfold idK at this
          simp only [upd, if_neg this]
          exact hH k
        · have : t ≠ 17 := by rintro rfl; exact ht (by decide)
          simp [blank, this, ht, St.kill1, St.setOb]
        · have h2 : id ≠ (79017, 0) := hid
          simp [blank, St.kill1, St.setOb, h2, hid]
  refine wp_seq (wp_region ?_)
  show wpOps Try.prog #[p1, p2, p3, p4, p5] _ [0, 1, 2, 3, 4] a w
  refine opRun (o := p1) rfl g1 (still_move (.inl b1)) ?_
  rw [d1]
  refine opRun (o := p2) rfl g2 s2 ?_
  rw [d2]
  refine opRun (o := p3) rfl g3 s3 ?_
  rw [d3]
  refine opRun (o := p4) rfl g4 s4 ?_
  rw [d4]
  have sz := hr.size
  refine opRun (o := p5) rfl g5 (exec_range b5 (ev_put_same (by simp only [put_size]; omega)) hrange) ?_
  rw [d5]
  generalize hA : (((((a.put (some 143) (a.eval (.tmp 15))).put (some 144) u2).put (some 145) u3).put (some 146) (Value.map (some bm))).put (some 147) (.pointer (some ⟨w.heap.size, 0, none⟩))) = a5
  have ev17 : a.eval (.tmp 17) = .slice none 0 0 := by
    have := hr.ev (.tmp 17)
    rw [ev_tmp, h17] at this
    exact (AVrep_v_inv this).1
  have R0 : RKt N a w bm clock es a5 (w.alloc (.mapIter (some bm) clock #[] clock)) [] := by
    rw [← hA]
    refine ⟨by simp only [put_size]; exact sz, by simp only [put_defers]; exact hr.defers, fun t ht => ?_, (Below.refl _ w).alloc (Nat.le_refl _) _, ⟨clock, Nat.le_refl _, heap_alloc_new w _⟩, ev_put_same (by simp only [put_size]; omega), ?_, fun x hx => by simp at hx, by simp, ?_⟩
    · have k1 : t ≠ 143 := by rintro rfl; exact ht (by decide)
      have k2 : t ≠ 144 := by rintro rfl; exact ht (by decide)
      have k3 : t ≠ 145 := by rintro rfl; exact ht (by decide)
      have k4 : t ≠ 146 := by rintro rfl; exact ht (by decide)
      have k5 : t ≠ 147 := by rintro rfl; exact ht (by decide)
      simp only [put_getD, k1, k2, k3, k4, k5, false_and, if_false]
    · rw [ev_put_ne (by decide), ev_put_ne (by decide), ev_put_ne (by decide), ev_put_ne (by decide), ev_put_ne (by decide), ev17]
      exact World.ownsRow_nil _ _ _ _
    · rw [ev_put_ne (by decide), ev_put_ne (by decide), ev_put_ne (by decide), ev_put_ne (by decide), ev_put_ne (by decide), ev17]
      simp
  clear hA
  have hint : ∀ x ∈ es.toList, ∃ n : Int, x.key = .int .i64 n := by
    intro x hx
    have : x.key ∈ (kvs.map (·.1)).map MK.val := by rw [← m2]; exact List.mem_map.2 ⟨x, hx, rfl⟩
    obtain ⟨k, hk, e⟩ := List.mem_map.1 this
    have := (m6 k hk).1
    cases k with
    | i n => exact ⟨n, e.symm⟩
    | p a b => cases this
    | k s a b => cases this
  have hes : es.size ≤ 1000000 := by
    have := congrArg List.length m2
    simp at this
    omega
  show (Code.block 6 (.loop yl)).wp Try.prog _ a5 _
  have okl : okCode2 N lo yl = true := by simpa only [okCode2] using oky
  refine wp_block (wp_loop (fun a' w' => ∃ ds, RKt N a w bm clock es a' w' ds) (fun a' w' => es.size - (w'.iterSeen w.heap.size).size) ⟨[], R0⟩ fun a' w' ⟨ds, h⟩ => ?_)
  have seen : ∀ {a' w' ds}, RKt N a w bm clock es a' w' ds → (w'.iterSeen w.heap.size).size = ds.length := by
    intro a' w' ds h
    obtain ⟨c, _, hit⟩ := h.it
    unfold World.iterSeen
    rw [hit]
    simp
  refine round_l3 hyl okl m4 m1 hint hes (fun a2 w2 ds2 h2 hl2 => ?_) (fun a2 h2 hp => ?_) h
  · refine ⟨⟨ds2, h2⟩, ?_⟩
    have := h2.len
    rw [seen h2, seen h]
    omega
  · exact hfin _ _ _ h2 hp
end
end Cal

/- impl.newTrie, in line. -/
set_option linter.unusedSimpArgs false
set_option linter.unusedVariables false
namespace Cal
open Go Go.Proofs Auto AC
set_option maxRecDepth 100000
@[simp] theorem isPtrT_ptr (t : TypeId) : isPtrT (some (.pointer t)) = true := rfl
@[simp] theorem ti_147 : tinf Try.prog 147 = some ⟨true, 6, 48, [.map none, .bool false, .int .i64 0, .pointer none, .int .i64 0, .int .i64 0]⟩ := by kernel_rfl
/-- The code of impl.newTrie. -/
def k98 : Code1 :=
 (.seq
 (.region [] false ([]) [
 ⟨some 4,Op.assign (Operand.const (Value.pointer none)),none⟩])
 (.seq
 (.region [5,9] false ([]) [
 ⟨some 5,Op.makeMap 145 none,none⟩,
 ⟨some 6,Op.move (Operand.tmp 0),none⟩,
 ⟨some 7,Op.move (Operand.tmp 1),none⟩,
 ⟨some 8,Op.build 147 #[(0,Operand.tmp 5),(2,Operand.const (Value.int IntKind.i64 (-1))),(3,Operand.tmp 6),(4,Operand.tmp 7)],none⟩,
 ⟨some 9,Op.box 147 (Operand.tmp 8),none⟩,
 ⟨some 4,Op.assign (Operand.tmp 9),none⟩])
 .ret))
theorem newTrie_inl (s : St) {up : AV} (hup : up = .t (.v (.pointer none)) ∨ ∃ i : Nat, up = .ptr (70100, i) 0 0) (e : Int) (hc : s.Calm [] []) {R : AV → St → Prop}
    (hR : ∀ s', Keep [] s s' → s'.ob (9, 0) = some (.var [.mp (5, 0), .t (.v (.bool false)), .t (.v (.int .i64 (-1))), up, .t (.v (.int .i64 e)), .t (.v (.int .i64 0))]) → s'.ob (5, 0) = some (.map 0 []) → R (.ptr (9, 0) 0 0) s') : Inl Try.prog 98 [up, .t (.v (.int .i64 e))] s R := by
  refine inl_of_wp2 (fn := Try.f98) (k := k98) (fun _ => []) mixed (by kernel_rfl) rfl (by kernel_rfl) (by kernel_rfl) rfl (by simp [Try.f98]) ?_
  generalize hst : s.body [up, .t (.v (.int .i64 e))] = st0
  have q0 : ∀ F, Keep F s st0 := fun F => by rw [← hst]; exact (Keep.refl F s).body _
  have hob : st0.ob = s.ob := by rw [← hst]; rfl
  have t0 : st0.tm 0 = up := by rw [← hst]; rfl
  have t1 : st0.tm 1 = .t (.v (.int .i64 e)) := by rw [← hst]; rfl
  clear hst
  unfold k98
  rcases hup with rfl | ⟨i, rfl⟩
  · repeat' (first
   | refine wp2_seq fun K hK => ?_
   | refine M_cons fun K hK => ?_
   | (refine hK _ ?_; clear hK K)
   | refine wp2_region ?_
   | simp (maxSteps := 4000000) (disch := omega) [t0, t1])
    refine ⟨.ptr (9, 0) 0 0, by simp [resultA], hR _ (Keep.bare ?_) (by simp) (by simp)⟩
    (repeat' first | exact q0 | exact q0 _ | refine Keep.put ?_ _ _ | refine Keep.setOb ?_ (by first | rfl | simp) _ | refine Keep.kill hc ?_ (by first | rfl | simp) | refine Keep.ren hc ?_ (by first | rfl | simp) | refine Keep.ren1 hc ?_ (by first | rfl | simp) | refine Keep.kill1 hc ?_ (by first | rfl | simp))
  · repeat' (first
   | refine wp2_seq fun K hK => ?_
   | refine M_cons fun K hK => ?_
   | (refine hK _ ?_; clear hK K)
   | refine wp2_region ?_
   | simp (maxSteps := 4000000) (disch := omega) [t0, t1])
    refine ⟨.ptr (9, 0) 0 0, by simp [resultA], hR _ (Keep.bare ?_) (by simp) (by simp)⟩
    (repeat' first | exact q0 | exact q0 _ | refine Keep.put ?_ _ _ | refine Keep.setOb ?_ (by first | rfl | simp) _ | refine Keep.kill hc ?_ (by first | rfl | simp) | refine Keep.ren hc ?_ (by first | rfl | simp) | refine Keep.ren1 hc ?_ (by first | rfl | simp) | refine Keep.kill1 hc ?_ (by first | rfl | simp))
end Cal

/- impl.BuildAuto: the nodes of the trie as objects. -/
set_option linter.unusedSimpArgs false
set_option linter.unusedVariables false
namespace Cal
open Go Go.Proofs Auto AC
set_option maxRecDepth 100000
/-- Left as it stands. -/
def asIs {α : Type} (x : α) : α := x
def lastN (us : List (List Int)) (i : Nat) : Int := if gw us i = [] then -1 else lastL (gw us i)
def upV (us : List (List Int)) (i : Nat) : AV := if gw us i = [] then .t (.v (.pointer none)) else .ptr (70100, ix us (parR (gw us i))) 0 0
def nodeV (us : List (List Int)) (en : List Int → Bool) (mu : List Int → Int) (nm : Int) (i : Nat) : List AV := [.mp (70101, i), .t (.v (.bool (en (gw us i)))), .t (.v (.int .i64 (mu (gw us i)))), upV us i, .t (.v (.int .i64 (lastN us i))), .t (.v (.int .i64 nm))]
def kidM (us : List (List Int)) (w : List Int) : List (MK × AV) := (kidN us w).map fun p => (.i p.1, .ptr (70100, p.2) 0 0)
def Nodes (us : List (List Int)) (en : List Int → Bool) (mu : List Int → Int) (nm : Nat → Int) (s : St) : Prop := ∀ i, i < us.length → s.ob (70100, i) = some (.var (nodeV us en mu (nm i) i)) ∧ s.ob (70101, i) = some (.map 0 (kidM us (gw us i)))
theorem kidM_len (us : List (List Int)) (w : List Int) : (kidM us w).length ≤ us.length := by
  unfold kidM kidN
  rw [List.length_map]
  exact Nat.le_trans (List.length_filterMap_le _ _) (by simp)
theorem kidM_keys (us : List (List Int)) (w : List Int) : (kidM us w).map (·.1) = ((kidN us w).map (·.1)).map MK.i := by
  unfold kidM
  rw [List.map_map, List.map_map]
  rfl
theorem mget_kidM {us : List (List Int)} (hn : us.Nodup) (w : List Int) (e : Int) : mget (kidM us w) (.i e) = if w ++ [e] ∈ us then some (.ptr (70100, ix us (w ++ [e])) 0 0) else none := by
  split
  · rename_i h
    obtain ⟨j, hj, e1⟩ := List.mem_iff_getElem.1 ((mem_kidN hn).2 ⟨h, rfl⟩ : (e, ix us (w ++ [e])) ∈ kidN us w)
    have hk : ((kidM us w).map (·.1)).Nodup := by
      rw [kidM_keys]
      have := kidN_keys hn w
      unfold List.Nodup at *
      rw [List.pairwise_map]
      exact this.imp fun {a b} hab he => hab (by cases he; rfl)
    refine (mget_at hk (j := j) ?_).1
    unfold kidM
    rw [List.getElem?_map, List.getElem?_eq_getElem hj, e1]
    rfl
  · rename_i h
    refine mget_none fun p hp e1 => h ?_
    unfold kidM at hp
    obtain ⟨⟨e', j⟩, hq, rfl⟩ := List.mem_map.1 hp
    simp only at e1
    cases e1
    exact ((mem_kidN hn).1 hq).1
theorem mset_kidM {us : List (List Int)} (hn : us.Nodup) {w : List Int} {e : Int} (h : w ++ [e] ∉ us) : mset (kidM us w) (.i e) (.ptr (70100, us.length) 0 0) = kidM (us ++ [w ++ [e]]) w := by
  rw [mset_none (fun p hp e1 => h (by
    unfold kidM at hp
    obtain ⟨⟨e', j⟩, hq, rfl⟩ := List.mem_map.1 hp
    simp only at e1
    cases e1
    exact ((mem_kidN hn).1 hq).1))]
  unfold kidM
  rw [kidN_add, if_pos rfl, List.map_append]
  rfl
theorem kidM_other {us : List (List Int)} {v w : List Int} (e : Int) (h : v ≠ w) : kidM (us ++ [v ++ [e]]) w = kidM us w := by
  unfold kidM
  rw [kidN_add, if_neg h, List.append_nil]
theorem upV_old {us : List (List Int)} (hp : PC us) {w : List Int} {i : Nat} (hi : i < us.length) : upV (us ++ [w]) i = upV us i := by
  unfold upV
  rw [gw_old hi]
  split
  · rfl
  · rw [ix_app [w] (show parR (gw us i) ∈ us from hp.2 _ (gw_mem hi))]
theorem lastN_old {us : List (List Int)} {w : List Int} {i : Nat} (hi : i < us.length) : lastN (us ++ [w]) i = lastN us i := by
  unfold lastN
  rw [gw_old hi]
theorem nodeV_old {us : List (List Int)} (hp : PC us) {w : List Int} {i : Nat} (hi : i < us.length) (en : List Int → Bool) (mu : List Int → Int) (nm : Int) : nodeV (us ++ [w]) en mu nm i = nodeV us en mu nm i := by
  unfold nodeV
  rw [gw_old hi, upV_old hp hi, lastN_old hi]
theorem nodeV_new {us : List (List Int)} {v : List Int} {e : Int} (hv : v ∈ us) (hw : v ++ [e] ∉ us) (en : List Int → Bool) (mu : List Int → Int) (h1 : en (v ++ [e]) = false) (h2 : mu (v ++ [e]) = -1) (nm : Int) : nodeV (us ++ [v ++ [e]]) en mu nm us.length = [.mp (70101, us.length), .t (.v (.bool false)), .t (.v (.int .i64 (-1))), .ptr (70100, ix us v) 0 0, .t (.v (.int .i64 e)), .t (.v (.int .i64 nm))] := by
  unfold nodeV upV lastN
  rw [gw_new, if_neg (by simp), if_neg (by simp), parR_snoc, lastL_snoc, ix_app [v ++ [e]] hv, h1, h2]
@[simp] theorem lookB_kid (z : Value) (us : List (List Int)) (w : List Int) (k : MK) (ok : Bool) : lookB z ok 0 k (some (.map 0 (kidM us w))) = some (lookR ok z (mget (kidM us w) k), []) := rfl
@[simp] theorem mupB_kid (id q : Id) (us : List (List Int)) (w : List Int) (k : MK) : mupB id 0 (.ptr q 0 0) k (some (.map 0 (kidM us w))) = some [(id, some (.map 0 (mset (kidM us w) k (.ptr q 0 0))))] := rfl
theorem kidM_at {us : List (List Int)} {w : List Int} {p : MK × AV} (h : p ∈ kidM us w) : ∃ e j, p = (.i e, .ptr (70100, j) 0 0) ∧ j < us.length := by
  unfold kidM kidN at h
  obtain ⟨⟨e, j⟩, hq, rfl⟩ := List.mem_map.1 h
  obtain ⟨k, hk, h1⟩ := List.mem_filterMap.1 hq
  split at h1
  · cases h1
    exact ⟨_, _, rfl, List.mem_range.1 hk⟩
  · cases h1
theorem map_same {α : Type} {f : α → α} {l : List α} (h : ∀ x ∈ l, f x = x) : l.map f = l := by
  conv => rhs; rw [← List.map_id l]
  exact List.map_congr_left h
theorem kid_ren_c (us : List (List Int)) (w : List Int) (a b : Nat) (q : Id) (ha : a ≠ 70100) : (kidM us w).map (fun p => (p.1, p.2.renG (ren1 (a, b) q))) = kidM us w := by
  refine map_same fun p hp => ?_
  obtain ⟨e, j, rfl, _⟩ := kidM_at hp
  have : ¬ 70100 = a := fun e => ha e.symm
  simp [ren1, this]
theorem kid_renI_c (us : List (List Int)) (w : List Int) (a b : Nat) (ha : a ≠ 70100) : (kidM us w).map (fun p => (p.1, p.2.renG (renI a b))) = kidM us w := by
  refine map_same fun p hp => ?_
  obtain ⟨e, j, rfl, _⟩ := kidM_at hp
  have : ¬ 70100 = a := fun e => ha e.symm
  simp [this]
theorem kid_kill1 (us : List (List Int)) (w : List Int) : (kidM us w).map (fun p => (p.1, p.2.kill1 (70100, us.length))) = kidM us w := by
  refine map_same fun p hp => ?_
  obtain ⟨e, j, rfl, h⟩ := kidM_at hp
  have : ¬ j = us.length := by omega
  simp [this]
theorem kid_kill1p_c (us : List (List Int)) (w : List Int) (a b : Nat) (ha : a ≠ 70100) : (kidM us w).map (fun p => (p.1, p.2.kill1 (a, b))) = kidM us w := by
  refine map_same fun p hp => ?_
  obtain ⟨e, j, rfl, h⟩ := kidM_at hp
  have : ¬ 70100 = a := fun e => ha e.symm
  simp [this]
theorem kid_kill_c (us : List (List Int)) (w : List Int) (ds : List Nat) (hd : ds.contains 70100 = false) : (kidM us w).map (fun p => (p.1, p.2.kill ds)) = kidM us w := by
  refine map_same fun p hp => ?_
  obtain ⟨e, j, rfl, h⟩ := kidM_at hp
  have : ¬ 70100 ∈ ds := fun hm => by simp [hm] at hd
  unfold AV.kill
  simp [this]
@[simp] theorem kid_ren (us : List (List Int)) (w : List Int) (a b : Nat) (q : Id) : (kidM us w).map (fun p => (p.1, p.2.renG (ren1 (a, b) q))) = if a = 70100 then asIs ((kidM us w).map (fun p => (p.1, p.2.renG (ren1 (a, b) q)))) else kidM us w := by
  split
  · rfl
  · exact kid_ren_c us w a b q (by assumption)
@[simp] theorem kid_renI (us : List (List Int)) (w : List Int) (a b : Nat) : (kidM us w).map (fun p => (p.1, p.2.renG (renI a b))) = if a = 70100 then asIs ((kidM us w).map (fun p => (p.1, p.2.renG (renI a b)))) else kidM us w := by
  split
  · rfl
  · exact kid_renI_c us w a b (by assumption)
@[simp] theorem kid_k1 (us : List (List Int)) (w : List Int) (a b : Nat) : (kidM us w).map (fun p => (p.1, p.2.kill1 (a, b))) = if a = 70100 then (if b = us.length then kidM us w else asIs ((kidM us w).map (fun p => (p.1, p.2.kill1 (a, b))))) else kidM us w := by
  split
  · split
    · rename_i h1 h2
      subst h1 h2
      exact kid_kill1 us w
    · rfl
  · exact kid_kill1p_c us w a b (by assumption)
@[simp] theorem kid_kill (us : List (List Int)) (w : List Int) (ds : List Nat) : (kidM us w).map (fun p => (p.1, p.2.kill ds)) = if ds.contains 70100 = true then asIs ((kidM us w).map (fun p => (p.1, p.2.kill ds))) else kidM us w := by
  split
  · rfl
  · exact kid_kill_c us w ds (Bool.eq_false_iff.2 (by assumption))
theorem upV_kill_c (us : List (List Int)) (i : Nat) (ds : List Nat) (h0 : ds.contains 70100 = false) : AV.kill ds (upV us i) = upV us i := by
  have h0' : ¬ 70100 ∈ ds := fun hm => by simp [hm] at h0
  unfold upV
  split <;> simp [AV.kill, h0']
theorem upV_ren_c (us : List (List Int)) (i a b : Nat) (q : Id) (h0 : a ≠ 70100) : (upV us i).renG (ren1 (a, b) q) = upV us i := by
  have h0' : ¬ 70100 = a := fun e => h0 e.symm
  unfold upV
  split <;> simp [ren1, h0']
theorem upV_renI_c (us : List (List Int)) (i a b : Nat) (h0 : a ≠ 70100) : (upV us i).renG (renI a b) = upV us i := by
  have h0' : ¬ 70100 = a := fun e => h0 e.symm
  unfold upV
  split <;> simp [h0']
theorem nodeV_kill_c (us : List (List Int)) (en : List Int → Bool) (mu : List Int → Int) (nm : Int) (i : Nat) (ds : List Nat) (h0 : ds.contains 70100 = false) (h1 : ds.contains 70101 = false) : AV.kills ds (nodeV us en mu nm i) = nodeV us en mu nm i := by
  have h0' : ¬ 70100 ∈ ds := fun hm => by simp [hm] at h0
  have h1' : ¬ 70101 ∈ ds := fun hm => by simp [hm] at h1
  unfold nodeV upV
  split <;> simp [AV.kills, AV.kill, h0', h1']
theorem nodeV_ren_c (us : List (List Int)) (en : List Int → Bool) (mu : List Int → Int) (nm : Int) (i a b : Nat) (q : Id) (h0 : a ≠ 70100) (h1 : a ≠ 70101) : AV.rensG (ren1 (a, b) q) (nodeV us en mu nm i) = nodeV us en mu nm i := by
  have h0' : ¬ 70100 = a := fun e => h0 e.symm
  have h1' : ¬ 70101 = a := fun e => h1 e.symm
  unfold nodeV upV
  split <;> simp [ren1, h0', h1']
theorem nodeV_renI_c (us : List (List Int)) (en : List Int → Bool) (mu : List Int → Int) (nm : Int) (i a b : Nat) (h0 : a ≠ 70100) (h1 : a ≠ 70101) : AV.rensG (renI a b) (nodeV us en mu nm i) = nodeV us en mu nm i := by
  have h0' : ¬ 70100 = a := fun e => h0 e.symm
  have h1' : ¬ 70101 = a := fun e => h1 e.symm
  unfold nodeV upV
  split <;> simp [h0', h1']
theorem nodeV_k1 {us : List (List Int)} (hp : PC us) {i : Nat} (hi : i < us.length) (en : List Int → Bool) (mu : List Int → Int) (nm : Int) : AV.kills1 (70100, us.length) (nodeV us en mu nm i) = nodeV us en mu nm i ∧ AV.kills1 (70101, us.length) (nodeV us en mu nm i) = nodeV us en mu nm i := by
  have h0 : ¬ i = us.length := by omega
  have h1 : ¬ ix us (parR (gw us i)) = us.length := by
    have := (ix_lt (us := us) (w := parR (gw us i)) (hp.2 _ (gw_mem hi))).1
    omega
  unfold nodeV upV
  split <;> simp [h0, h1]
theorem nodeV_k1p_c (us : List (List Int)) (en : List Int → Bool) (mu : List Int → Int) (nm : Int) (i a b : Nat) (h0 : a ≠ 70100) (h1 : a ≠ 70101) : AV.kills1 (a, b) (nodeV us en mu nm i) = nodeV us en mu nm i := by
  have h0' : ¬ 70100 = a := fun e => h0 e.symm
  have h1' : ¬ 70101 = a := fun e => h1 e.symm
  unfold nodeV upV
  split <;> simp [h0', h1']
@[simp] theorem upV_kill (us : List (List Int)) (i : Nat) (ds : List Nat) : AV.kill ds (upV us i) = if ds.contains 70100 = true then asIs (AV.kill ds (upV us i)) else upV us i := by
  split
  · rfl
  · exact upV_kill_c us i ds (Bool.eq_false_iff.2 (by assumption))
@[simp] theorem upV_ren (us : List (List Int)) (i a b : Nat) (q : Id) : (upV us i).renG (ren1 (a, b) q) = if a = 70100 then asIs ((upV us i).renG (ren1 (a, b) q)) else upV us i := by
  split
  · rfl
  · exact upV_ren_c us i a b q (by assumption)
@[simp] theorem upV_renI (us : List (List Int)) (i a b : Nat) : (upV us i).renG (renI a b) = if a = 70100 then asIs ((upV us i).renG (renI a b)) else upV us i := by
  split
  · rfl
  · exact upV_renI_c us i a b (by assumption)
@[simp] theorem nodeV_kill (us : List (List Int)) (en : List Int → Bool) (mu : List Int → Int) (nm : Int) (i : Nat) (ds : List Nat) : AV.kills ds (nodeV us en mu nm i) = if (ds.contains 70100 || ds.contains 70101) = true then asIs (AV.kills ds (nodeV us en mu nm i)) else nodeV us en mu nm i := by
  split
  · rfl
  · rename_i h
    simp only [Bool.not_eq_true, Bool.or_eq_false_iff] at h
    exact nodeV_kill_c us en mu nm i ds h.1 h.2
@[simp] theorem nodeV_ren (us : List (List Int)) (en : List Int → Bool) (mu : List Int → Int) (nm : Int) (i a b : Nat) (q : Id) : AV.rensG (ren1 (a, b) q) (nodeV us en mu nm i) = if a = 70100 ∨ a = 70101 then asIs (AV.rensG (ren1 (a, b) q) (nodeV us en mu nm i)) else nodeV us en mu nm i := by
  split
  · rfl
  · rename_i h
    exact nodeV_ren_c us en mu nm i a b q (fun e => h (.inl e)) (fun e => h (.inr e))
@[simp] theorem nodeV_renI (us : List (List Int)) (en : List Int → Bool) (mu : List Int → Int) (nm : Int) (i a b : Nat) : AV.rensG (renI a b) (nodeV us en mu nm i) = if a = 70100 ∨ a = 70101 then asIs (AV.rensG (renI a b) (nodeV us en mu nm i)) else nodeV us en mu nm i := by
  split
  · rfl
  · rename_i h
    exact nodeV_renI_c us en mu nm i a b (fun e => h (.inl e)) (fun e => h (.inr e))
@[simp] theorem nodeV_len (us : List (List Int)) (en : List Int → Bool) (mu : List Int → Int) (nm : Int) (i : Nat) : (nodeV us en mu nm i).length = 6 := rfl
@[simp] theorem nodeV_t0 (us : List (List Int)) (en : List Int → Bool) (mu : List Int → Int) (nm : Int) (i : Nat) : (nodeV us en mu nm i).take 1 = [.mp (70101, i)] := rfl
@[simp] theorem nodeV_t1 (us : List (List Int)) (en : List Int → Bool) (mu : List Int → Int) (nm : Int) (i : Nat) : ((nodeV us en mu nm i).drop 1).take 1 = [.t (.v (.bool (en (gw us i))))] := rfl
@[simp] theorem nodeV_t2 (us : List (List Int)) (en : List Int → Bool) (mu : List Int → Int) (nm : Int) (i : Nat) : ((nodeV us en mu nm i).drop 2).take 1 = [.t (.v (.int .i64 (mu (gw us i))))] := rfl
@[simp] theorem nodeV_t3 (us : List (List Int)) (en : List Int → Bool) (mu : List Int → Int) (nm : Int) (i : Nat) : ((nodeV us en mu nm i).drop 3).take 1 = [upV us i] := rfl
@[simp] theorem nodeV_t4 (us : List (List Int)) (en : List Int → Bool) (mu : List Int → Int) (nm : Int) (i : Nat) : ((nodeV us en mu nm i).drop 4).take 1 = [.t (.v (.int .i64 (lastN us i)))] := rfl
@[simp] theorem nodeV_t5 (us : List (List Int)) (en : List Int → Bool) (mu : List Int → Int) (nm : Int) (i : Nat) : ((nodeV us en mu nm i).drop 5).take 1 = [.t (.v (.int .i64 nm))] := rfl
/-- The nodes behind a new one. -/
theorem Nodes.add {us : List (List Int)} {en : List Int → Bool} {mu : List Int → Int} {s s' : St} {v : List Int} {e : Int} (h : Nodes us en mu (fun _ => 0) s) (hp : PC us) (hn : us.Nodup) (hv : v ∈ us) (hw : v ++ [e] ∉ us) (h1 : en (v ++ [e]) = false) (h2 : mu (v ++ [e]) = -1)
    (o1 : s'.ob (70100, us.length) = some (.var [.mp (70101, us.length), .t (.v (.bool false)), .t (.v (.int .i64 (-1))), .ptr (70100, ix us v) 0 0, .t (.v (.int .i64 e)), .t (.v (.int .i64 0))])) (o2 : s'.ob (70101, us.length) = some (.map 0 []))
    (o3 : s'.ob (70101, ix us v) = some (.map 0 (mset (kidM us v) (.i e) (.ptr (70100, us.length) 0 0)))) (o4 : ∀ i, i < us.length → s'.ob (70100, i) = s.ob (70100, i)) (o5 : ∀ i, i < us.length → i ≠ ix us v → s'.ob (70101, i) = s.ob (70101, i)) : Nodes (us ++ [v ++ [e]]) en mu (fun _ => 0) s' := by
  intro i hi
  rw [List.length_append, List.length_singleton] at hi
  obtain ⟨x1, x2⟩ := ix_lt hv
  by_cases hlt : i < us.length
  · obtain ⟨n1, n2⟩ := h i hlt
    refine ⟨by rw [o4 i hlt, n1, nodeV_old hp hlt], ?_⟩
    rw [gw_old hlt]
    by_cases he : i = ix us v
    · subst he
      rw [o3, x2, mset_kidM hn hw]
    · rw [o5 i hlt he, n2, kidM_other]
      intro e1
      apply he
      rw [e1, ix_gw hn hlt]
  · obtain rfl : i = us.length := by omega
    refine ⟨by rw [o1, nodeV_new hv hw en mu h1 h2], ?_⟩
    rw [o2, gw_new]
    have : kidM (us ++ [v ++ [e]]) (v ++ [e]) = [] := by
      unfold kidM
      rw [kidN_add, if_neg (by intro hh; have := congrArg List.length hh; simp at this), kidN_leaf hp hw]
      rfl
    rw [this]
end Cal

/- impl.BuildAuto: the walk down the trie for one rule. -/
set_option linter.unusedSimpArgs false
set_option linter.unusedVariables false
namespace Cal
open Go Go.Proofs Auto AC
set_option maxRecDepth 100000
abbrev F0b : List Nat := [79002, 79006, 79012, 79013, 79017, 70100, 70101, 70102, 70103, 70104, 70105, 70106]
def emptyA (c : Int) : List AV := [.t (.v (.int .i64 c)), .t (.v (.slice none 0 0)), .t (.v (.slice none 0 0)), .t (.v (.slice none 0 0)), .t (.v (.slice none 0 0)), .t (.v (.slice none 0 0))]
/-- On the way down. -/
structure SI (rs : List Ru) (k : Nat) (r : Ru) (l : List Int) (us : List (List Int)) (en : List Int → Bool) (mu : List Int → Int) (j : Nat) (st0 s : St) : Prop where
  s2 : s.tm 2 = .ptr (79002, 0) 0 0
  o2 : s.ob (79002, 0) = some (.var (emptyA 0))
  s3 : s.tm 3 = .ptr (70100, 0) 0 0
  s4 : s.tm 4 = .t (.v (.int .i64 us.length))
  s6 : s.tm 6 = .ptr (79006, 0) 0 0
  o6 : s.ob (79006, 0) = some (.var (encRu r |>.map .t))
  s8 : s.tm 8 = .ptr (70100, ix us (l.take j)) 0 0
  s31 : s.tm 31 = .t (recs encRu rs)
  s32 : s.tm 32 = .t (.v (.int .i64 rs.length))
  s33 : s.tm 33 = .t (.v (.int .i64 k))
  s47 : s.tm 47 = .t (ints l)
  s48 : s.tm 48 = .t (.v (.int .i64 l.length))
  s49 : s.tm 49 = .t (.v (.int .i64 j))
  nd : Nodes us en mu (fun _ => 0) s
  q : Keep F0b st0 s
theorem SI.at8 {rs : List Ru} {k : Nat} {r : Ru} {l : List Int} {us : List (List Int)} {en : List Int → Bool} {mu : List Int → Int} {j : Nat} {st0 s : St} (h : SI rs k r l us en mu j st0 s) (hin : l.take j ∈ us) :
    s.ob (70100, ix us (l.take j)) = some (.var [.mp (70101, ix us (l.take j)), .t (.v (.bool (en (l.take j)))), .t (.v (.int .i64 (mu (l.take j)))), upV us (ix us (l.take j)), .t (.v (.int .i64 (lastN us (ix us (l.take j))))), .t (.v (.int .i64 0))]) ∧ s.ob (70101, ix us (l.take j)) = some (.map 0 (kidM us (l.take j))) := by
  obtain ⟨x1, x2⟩ := ix_lt hin
  obtain ⟨n1, n2⟩ := h.nd _ x1
  rw [x2] at n2
  unfold nodeV at n1
  rw [x2] at n1
  exact ⟨n1, n2⟩
set_option maxHeartbeats 0 in
theorem down_1 {rs : List Ru} {k : Nat} {r : Ru} {l : List Int} {us : List (List Int)} {en : List Int → Bool} {mu : List Int → Int} {j : Nat} {st0 s : St} (h : SI rs k r l us en mu j st0 s) (hlt : j < l.length) (hl : l.length ≤ 1000) (hn : us.Nodup) (hin : l.take j ∈ us) (he0 : 0 ≤ rd l j) (he1 : rd l j < 4000) (hc : st0.Calm F0b F0b) (hw : l.take j ++ [rd l j] ∈ us) {K : St → Prop} {Q : Ex → St → Prop}
    (hK' : ∀ s', SI rs k r l us en mu (j + 1) st0 s' → K s') : wp2 Try.prog k32_l1 (thenQ K Q) s := by
  have ml : mget (kidM us (l.take j)) (.i (rd l j)) = some (.ptr (70100, ix us (l.take j ++ [rd l j])) 0 0) := by rw [mget_kidM hn, if_pos hw]
  obtain ⟨o8, m8⟩ := h.at8 hin
  obtain ⟨s2, o2, s3, s4, s6, o6, s8, s31, s32, s33, s47, s48, s49, nd, q⟩ := h
  have et : l.take j ++ [rd l j] = l.take (j + 1) := by
    rw [List.take_add_one, rd_getD, List.getD_eq_getElem?_getD, List.getElem?_eq_getElem hlt]
    rfl
  rw [et] at ml
  unfold k32_l1
  generalize ix us (l.take j) = p at *
  repeat' (first
   | refine wp2_seq fun K hK => ?_
   | refine M_cons fun K hK => ?_
   | (refine hK _ ?_; clear hK K)
   | (refine hX _ ?_; clear hX hY X Y)
   | (refine hY _ ?_; clear hX hY X Y)
   | refine wp2_block ?_
   | refine wp2_region ?_
   | refine wp2_cond fun X Y hX hY => ?_
   | (refine condK_of (fun c => ?_) (fun c => ?_) <;> (try simp [-List.length_eq_zero_iff] at c))
   | simp (maxSteps := 4000000) (disch := omega) [s49, s48, s47, s8, o8, m8, ml, hlt])
  all_goals first | omega | skip
  refine hK' _ ⟨by simp [s2], by simp [o2], by simp [s3], by simp [s4], by simp [s6], by simp [o6], by simp, by simp [s31], by simp [s32], by simp [s33], by simp [s47], by simp [s48], by simp, fun i hi => by simpa using nd i hi, ?_⟩
  (repeat' first | exact q | exact q _ | refine Keep.put ?_ _ _ | refine Keep.setOb ?_ (by first | rfl | simp) _ | refine Keep.kill hc ?_ (by first | rfl | simp) | refine Keep.ren hc ?_ (by first | rfl | simp) | refine Keep.ren1 hc ?_ (by first | rfl | simp) | refine Keep.kill1 hc ?_ (by first | rfl | simp))
end Cal

/- impl.BuildAuto: the walk down the trie: a new node. -/
set_option linter.unusedSimpArgs false
set_option linter.unusedVariables false
namespace Cal
open Go Go.Proofs Auto AC
set_option maxRecDepth 100000
theorem nodeV_calm (us : List (List Int)) (en : List Int → Bool) (mu : List Int → Int) (nm : Int) (i : Nat) : AV.frees (fun id => ¬ calm [] id) (nodeV us en mu nm i) := by
  unfold nodeV upV
  split <;> simp [AV.frees, AV.free, calm]
theorem kidM_calm (us : List (List Int)) (w : List Int) : AV.frees (fun id => ¬ calm [] id) ((kidM us w).map (·.2)) := by
  unfold kidM
  rw [List.map_map]
  generalize kidN us w = l
  induction l with
  | nil => simp [AV.frees]
  | cons p l ih =>
    simp only [List.map_cons, Function.comp]
    unfold AV.frees
    exact ⟨by simp [AV.free, calm], ih⟩
/-- What belongs to the function itself. -/
def ownN (us : List (List Int)) (id : Id) : Prop := id = (79002, 0) ∨ id = (79006, 0) ∨ ∃ i, i < us.length ∧ (id = (70100, i) ∨ id = (70101, i))
set_option maxHeartbeats 0 in
theorem down_2 {rs : List Ru} {k : Nat} {r : Ru} {l : List Int} {us : List (List Int)} {en : List Int → Bool} {mu : List Int → Int} {j : Nat} {st0 s : St} (h : SI rs k r l us en mu j st0 s) (hlt : j < l.length) (hl : l.length ≤ 1000) (hn : us.Nodup) (hin : l.take j ∈ us) (he0 : 0 ≤ rd l j) (he1 : rd l j < 4000) (hc : st0.Calm F0b F0b) (hw : l.take j ++ [rd l j] ∉ us)
    (hpc : PC us) (hlen : us.length ≤ 2000) (h1 : en (l.take j ++ [rd l j]) = false) (h2 : mu (l.take j ++ [rd l j]) = -1) {K : St → Prop} {Q : Ex → St → Prop}
    (hK' : us.length + 1 ≤ 2000 → ∀ s', SI rs k r l (us ++ [l.take j ++ [rd l j]]) en mu (j + 1) st0 s' → K s')
    (hR : 2000 < us.length + 1 → ∀ s', s'.tm 2 = .ptr (79002, 0) 0 0 → s'.ob (79002, 0) = some (.var (emptyA 13)) → Q .ret s') : wp2 Try.prog k32_l1 (thenQ K Q) s := by
  have ml : mget (kidM us (l.take j)) (.i (rd l j)) = none := by rw [mget_kidM hn, if_neg hw]
  obtain ⟨x1, x2⟩ := ix_lt hin
  obtain ⟨o8, m8⟩ := h.at8 hin
  obtain ⟨s2, o2, s3, s4, s6, o6, s8, s31, s32, s33, s47, s48, s49, nd, q⟩ := h
  have et : l.take j ++ [rd l j] = l.take (j + 1) := by
    rw [List.take_add_one, rd_getD, List.getD_eq_getElem?_getD, List.getElem?_eq_getElem hlt]
    rfl
  unfold k32_l1
  repeat' (first
   | refine wp2_seq fun K hK => ?_
   | refine M_cons fun K hK => ?_
   | (refine hK _ ?_; clear hK K)
   | (refine hX _ ?_; clear hX hY X Y)
   | refine wp2_block ?_
   | refine wp2_inl (mk := [63]) 2 rfl ?_
   | refine wp2_region ?_
   | refine wp2_cond fun X Y hX hY => ?_
   | (refine condK_of (fun c => ?_) (fun c => ?_) <;> (try simp [-List.length_eq_zero_iff] at c))
   | simp (maxSteps := 4000000) (disch := omega) [s49, s48, s47, s8, o8, m8, ml, hlt])
  all_goals first | omega | skip
  generalize hst : St.put _ (some 62) _ = st1
  have q1 : Keep F0b st0 st1 := by
    rw [← hst]
    (repeat' first | exact q | exact q _ | refine Keep.put ?_ _ _ | refine Keep.setOb ?_ (by first | rfl | simp) _ | refine Keep.kill hc ?_ (by first | rfl | simp) | refine Keep.ren hc ?_ (by first | rfl | simp) | refine Keep.ren1 hc ?_ (by first | rfl | simp) | refine Keep.kill1 hc ?_ (by first | rfl | simp))
  have u2 : st1.tm 2 = .ptr (79002, 0) 0 0 := by rw [← hst]; simp [s2]
  have u3 : st1.tm 3 = .ptr (70100, 0) 0 0 := by rw [← hst]; simp [s3]
  have u4 : st1.tm 4 = .t (.v (.int .i64 us.length)) := by rw [← hst]; simp [s4]
  have u6 : st1.tm 6 = .ptr (79006, 0) 0 0 := by rw [← hst]; simp [s6]
  have u8 : st1.tm 8 = .ptr (70100, ix us (l.take j)) 0 0 := by rw [← hst]; simp [s8]
  have u10 : st1.tm 10 = .t (.v (.int .i64 (rd l j))) := by rw [← hst]; simp
  have u31 : st1.tm 31 = .t (recs encRu rs) := by rw [← hst]; simp [s31]
  have u32 : st1.tm 32 = .t (.v (.int .i64 rs.length)) := by rw [← hst]; simp [s32]
  have u33 : st1.tm 33 = .t (.v (.int .i64 k)) := by rw [← hst]; simp [s33]
  have u47 : st1.tm 47 = .t (ints l) := by rw [← hst]; simp [s47]
  have u48 : st1.tm 48 = .t (.v (.int .i64 l.length)) := by rw [← hst]; simp [s48]
  have u49 : st1.tm 49 = .t (.v (.int .i64 j)) := by rw [← hst]; simp [s49]
  have u61 : st1.tm 61 = .ptr (70100, ix us (l.take j)) 0 0 := by rw [← hst]; simp
  have u62 : st1.tm 62 = .t (.v (.int .i64 (rd l j))) := by rw [← hst]; simp
  have v2 : st1.ob (79002, 0) = some (.var (emptyA 0)) := by rw [← hst]; simp [o2, emptyA]
  have v6 : st1.ob (79006, 0) = some (.var (encRu r |>.map .t)) := by rw [← hst]; simp [o6, encRu]
  have nd1 : Nodes us en mu (fun _ => 0) st1 := by
    intro i hi
    obtain ⟨n1, n2⟩ := nd i hi
    rw [← hst]
    simp [n1, n2]
  clear hst
  refine callI_named [] [2, 3, 4, 6, 8, 10, 31, 32, 33, 47, 48, 49, 61, 62] (fun id => calm F0b id ∨ ownN us id) (by decide) ⟨Try.f98, by kernel_rfl, by kernel_rfl, rfl⟩ [.ptr (70100, ix us (l.take j)) 0 0, .t (.v (.int .i64 (rd l j)))] (by simp [-renL_cons, u61, u62]) ?_
  simp only [renL_nil]
  refine newTrie_inl _ (.inr ⟨_, rfl⟩) _ (push_frame hc q1 rfl (by simp [u2, u3, u4, u6, u8, u10, u31, u32, u33, u47, u48, u49, u61, u62, AV.free, calm]) ?_) ?_
  · rintro id o (rfl | rfl | ⟨i, hi, rfl | rfl⟩) ho
    · rw [v2] at ho
      cases ho
      simp [Ob.avs, emptyA, AV.frees, AV.free]
    · rw [v6] at ho
      cases ho
      exact AV.frees_map_t _ _
    · rw [(nd1 i hi).1] at ho
      cases ho
      exact nodeV_calm _ _ _ _ _
    · rw [(nd1 i hi).2] at ho
      cases ho
      exact kidM_calm _ _
  intro s' hk' z1 z2
  rw [← pop0_ob] at z1 z2
  obtain ⟨kp, ktm⟩ := hk'.pop
  generalize s'.pop0 = s3 at *
  have q3 := keep_back q1 kp rfl
  have w2 : s3.tm 2 = .ptr (79002, 0) 0 0 := by rw [ktm]; simp [u2]
  have w3 : s3.tm 3 = .ptr (70100, 0) 0 0 := by rw [ktm]; simp [u3]
  have w4 : s3.tm 4 = .t (.v (.int .i64 us.length)) := by rw [ktm]; simp [u4]
  have w6 : s3.tm 6 = .ptr (79006, 0) 0 0 := by rw [ktm]; simp [u6]
  have w8 : s3.tm 8 = .ptr (70100, ix us (l.take j)) 0 0 := by rw [ktm]; simp [u8]
  have w10 : s3.tm 10 = .t (.v (.int .i64 (rd l j))) := by rw [ktm]; simp [u10]
  have w31 : s3.tm 31 = .t (recs encRu rs) := by rw [ktm]; simp [u31]
  have w32 : s3.tm 32 = .t (.v (.int .i64 rs.length)) := by rw [ktm]; simp [u32]
  have w33 : s3.tm 33 = .t (.v (.int .i64 k)) := by rw [ktm]; simp [u33]
  have w47 : s3.tm 47 = .t (ints l) := by rw [ktm]; simp [u47]
  have w48 : s3.tm 48 = .t (.v (.int .i64 l.length)) := by rw [ktm]; simp [u48]
  have w49 : s3.tm 49 = .t (.v (.int .i64 j)) := by rw [ktm]; simp [u49]
  have bo : ∀ id, ownN us id → calm [] id → s3.ob id = st1.ob id := fun id hid hcm => back_ob kp hid hcm
  have y2 := (bo (79002, 0) (.inl rfl) (by simp [calm])).trans v2
  have y6 := (bo (79006, 0) (.inr (.inl rfl)) (by simp [calm])).trans v6
  have nd3 : Nodes us en mu (fun _ => 0) s3 := fun i hi => by
    rw [bo _ (.inr (.inr ⟨i, hi, .inl rfl⟩)) (by simp [calm]), bo _ (.inr (.inr ⟨i, hi, .inr rfl⟩)) (by simp [calm])]
    exact nd1 i hi
  clear nd nd1 u2 u3 u4 u6 u8 u10 u31 u32 u33 u47 u48 u49 u61 u62 v2 v6 bo kp ktm hk' q1 hin
  obtain ⟨n8, m8'⟩ := nd3 _ x1
  rw [x2] at m8'
  have k8 := nodeV_k1 hpc x1 en mu 0
  obtain ⟨k8, k9⟩ := k8
  have hne : ¬ ix us (l.take j) = us.length := by omega
  have hv : l.take j ∈ us := by rw [← x2]; exact gw_mem x1
  generalize hp : ix us (l.take j) = p at *
  repeat' (first
   | refine wp2_seq fun K hK => ?_
   | refine M_cons fun K hK => ?_
   | (refine hK _ ?_; clear hK K)
   | (refine hX _ ?_; clear hX hY X Y)
   | (refine hY _ ?_; clear hX hY X Y)
   | (refine wp2_ren1' (ops := ⟨some 64, _, _⟩ :: _) (9, 0) (70100, us.length) (by rfl) (by simp [w2, w3, w4, w6, w8, w10, w31, w32, w33, w47, w48, w49, y2, y6, z1, z2, mk1, makes, n8, m8', k8, k9, hne, emptyA] <;> first | rfl | exact ⟨rfl, rfl⟩) ?_)
   | (refine wp2_ren1' (ops := ⟨some 64, _, _⟩ :: _) (5, 0) (70101, us.length) (by rfl) (by simp [w2, w3, w4, w6, w8, w10, w31, w32, w33, w47, w48, w49, y2, y6, z1, z2, mk1, makes, n8, m8', k8, k9, hne, emptyA] <;> first | rfl | exact ⟨rfl, rfl⟩) ?_)
   | refine wp2_region ?_
   | refine wp2_cond fun X Y hX hY => ?_
   | (refine condK_of (fun c => ?_) (fun c => ?_) <;> (try simp [-List.length_eq_zero_iff] at c))
   | simp (maxSteps := 4000000) (disch := omega) [w2, w3, w4, w6, w8, w10, w31, w32, w33, w47, w48, w49, y2, y6, z1, z2, mk1, makes, n8, m8', k8, k9, hne, emptyA])
  all_goals first | omega | skip
  · exact hR (by omega) _ (by simp [w2]) (by simp [emptyA])
  · have wl : (us ++ [l.take j ++ [rd l j]]).length = us.length + 1 := by simp
    have hz : ¬ 0 = us.length := by omega
    have hne2 : ¬ us.length = p := fun e => hne e.symm
    have il : ix (us ++ [l.take j ++ [rd l j]]) (l.take (j + 1)) = us.length := by rw [← et]; exact ix_new hw
    refine hK' (by omega) _ ⟨by simp [w2], by simp [y2, emptyA], by simp [w3, hz], by simp [wl], by simp [w6], by simp [y6, encRu], by simp [il], by simp [w31], by simp [w32], by simp [w33], by simp [w47], by simp [w48], by simp, ?_, by (repeat' first | exact q3 | exact q3 _ | refine Keep.put ?_ _ _ | refine Keep.setOb ?_ (by first | rfl | simp) _ | refine Keep.kill hc ?_ (by first | rfl | simp) | refine Keep.ren hc ?_ (by first | rfl | simp) | refine Keep.ren1 hc ?_ (by first | rfl | simp) | refine Keep.kill1 hc ?_ (by first | rfl | simp))⟩
    refine Nodes.add nd3 hpc hn hv hw h1 h2 (by simp [z1, hp, hne]) (by simp [z2, hne, hne2]) (by simp [hp]) (fun i hi => ?_) (fun i hi hne' => ?_)
    · have e1 : ¬ i = us.length := by omega
      obtain ⟨g1, g2⟩ := nodeV_k1 hpc hi en mu 0
      simp [(nd3 i hi).1, e1, g1, g2]
    · have e1 : ¬ i = us.length := by omega
      rw [hp] at hne'
      simp [(nd3 i hi).2, e1, hne']
end Cal

/- impl.BuildAuto: the rules, one after the other. -/
set_option linter.unusedSimpArgs false
set_option linter.unusedVariables false
namespace Cal
open Go Go.Proofs Auto AC
set_option maxRecDepth 100000
/-! the plain law -/
def enR (rs : List Ru) (k : Nat) (w : List Int) : Bool := (rs.take k).any (badE w)
def muR (rs : List Ru) (k : Nat) (w : List Int) : Int := mustOf (pE w) (rs.take k)
theorem take_nth {rs : List Ru} {k : Nat} (h : k < rs.length) : rs.take (k + 1) = rs.take k ++ [nth rs k] := by
  rw [List.take_add_one, List.getElem?_eq_getElem h, nth_get h]
  rfl
theorem enR_succ {rs : List Ru} {k : Nat} (h : k < rs.length) (w : List Int) : enR rs (k + 1) w = (enR rs k w || badE w (nth rs k)) := by
  unfold enR
  rw [take_nth h, List.any_append]
  simp
theorem muR_succ {rs : List Ru} {k : Nat} (h : k < rs.length) (w : List Int) : muR rs (k + 1) w = if pE w (nth rs k) = true then bothI (muR rs k w) (lastR (nth rs k)) else muR rs k w := by
  unfold muR mustOf
  rw [take_nth h, List.foldl_append]
  rfl
/-- Where the rule's word ends. -/
def wordR (r : Ru) : List Int := if r.only = true then preR r else r.seq
theorem wordR_len (r : Ru) : (wordR r).length = mostR r := by
  unfold wordR mostR preR
  split
  · rw [List.length_take]; omega
  · rfl
theorem wordR_take (r : Ru) (j : Nat) (h : j ≤ mostR r) : (wordR r).take j = r.seq.take j := by
  unfold wordR
  unfold mostR at h
  split
  · rename_i ho
    rw [if_pos ho] at h
    unfold preR
    rw [List.take_take]
    congr 1
    omega
  · rfl
theorem wordR_rd (r : Ru) (j : Nat) (h : j < mostR r) : rd (wordR r) j = rd r.seq j := by
  have h2 := wordR_take r (j + 1) (by omega)
  have l1 : j < (wordR r).length := by rw [wordR_len]; exact h
  have l2 : j < r.seq.length := by unfold mostR at h; split at h <;> omega
  rw [rd_getD, rd_getD, List.getD_eq_getElem?_getD, List.getD_eq_getElem?_getD]
  have e1 : ((wordR r).take (j + 1))[j]? = (wordR r)[j]? := by rw [List.getElem?_take, if_pos (by omega)]
  have e2 : (r.seq.take (j + 1))[j]? = r.seq[j]? := by rw [List.getElem?_take, if_pos (by omega)]
  rw [← e1, h2, e2]
theorem insRun_le (r : Ru) (ws : List (List Int)) (n : Nat) : ∀ m, (insRun r ws n).length ≤ (insRun r ws (n + m)).length
  | 0 => Nat.le_refl _
  | m + 1 => by
    refine Nat.le_trans (insRun_le r ws n m) ?_
    have sh : insRun r ws (n + (m + 1)) = insStep (insRun r ws (n + m)) (r.seq.take (n + m + 1)) := rfl
    rw [sh]
    unfold insStep
    split
    · exact (insW_len _ _).2
    · exact Nat.le_refl _
structure IR (rs : List Ru) (k : Nat) (us : List (List Int)) : Prop where
  nd : us.Nodup
  pc : PC us
  len : us.length ≤ 2000
  same : SameW us (wordsN rs k)
  zero : gw us 0 = []
structure IL (rs : List Ru) (k : Nat) (j : Nat) (us : List (List Int)) : Prop where
  nd : us.Nodup
  pc : PC us
  len : us.length ≤ 2000
  same : SameW us (insRun (nth rs k) (wordsN rs k) j)
  has : (wordR (nth rs k)).take j ∈ us
  sub : ∀ w ∈ wordsN rs k, w ∈ us
  zero : gw us 0 = []
theorem IR.start {rs : List Ru} {k : Nat} {us : List (List Int)} (h : IR rs k us) : IL rs k 0 us := ⟨h.nd, h.pc, h.len, h.same, by rw [List.take_zero]; exact h.pc.1, fun w hw => (h.same.2 w).2 hw, h.zero⟩
theorem IL.done {rs : List Ru} {k : Nat} {us : List (List Int)} (h : IL rs k (mostR (nth rs k)) us) : IR rs (k + 1) us := ⟨h.nd, h.pc, h.len, h.same, h.zero⟩
theorem IL.rise {rs : List Ru} (hg : RGood rs) {k : Nat} (hk : k < rs.length) (j : Nat) : Short.Rising (insRun (nth rs k) (wordsN rs k) j) := ((wordsN_sm hg k (by omega)).run (hg.2 k hk).2.1 j).rise
theorem IL.ins {rs : List Ru} (hg : RGood rs) {k j : Nat} (hk : k < rs.length) {us : List (List Int)} (h : IL rs k j us) : insRun (nth rs k) (wordsN rs k) (j + 1) = insW (insRun (nth rs k) (wordsN rs k) j) ((nth rs k).seq.take (j + 1)) := by
  have sh : insRun (nth rs k) (wordsN rs k) (j + 1) = insStep (insRun (nth rs k) (wordsN rs k) j) ((nth rs k).seq.take (j + 1)) := rfl
  rw [sh]
  unfold insStep
  rw [if_pos]
  rw [← h.same.len (IL.rise hg hk j)]
  exact h.len
theorem wordR_next {r : Ru} {j : Nat} (hj : j < mostR r) : (wordR r).take j ++ [rd (wordR r) j] = r.seq.take (j + 1) := by
  rw [← wordR_take r (j + 1) (by omega), List.take_add_one, rd_getD, List.getD_eq_getElem?_getD, List.getElem?_eq_getElem (by rw [wordR_len]; exact hj)]
  rfl
theorem IL.old {rs : List Ru} (hg : RGood rs) {k j : Nat} (hk : k < rs.length) {us : List (List Int)} (h : IL rs k j us) (hj : j < mostR (nth rs k)) (hw : (wordR (nth rs k)).take j ++ [rd (wordR (nth rs k)) j] ∈ us) : IL rs k (j + 1) us := by
  rw [wordR_next hj] at hw
  refine ⟨h.nd, h.pc, h.len, ⟨h.nd, fun w => ?_⟩, by rw [wordR_take _ _ (by omega)]; exact hw, h.sub, h.zero⟩
  rw [h.ins hg hk, mem_insW, ← h.same.2 w]
  exact ⟨.inl, fun hx => hx.elim id fun e => e ▸ hw⟩
theorem IL.new {rs : List Ru} (hg : RGood rs) {k j : Nat} (hk : k < rs.length) {us : List (List Int)} (h : IL rs k j us) (hj : j < mostR (nth rs k)) (hw : (wordR (nth rs k)).take j ++ [rd (wordR (nth rs k)) j] ∉ us) :
    SameW (us ++ [(wordR (nth rs k)).take j ++ [rd (wordR (nth rs k)) j]]) (insRun (nth rs k) (wordsN rs k) (j + 1)) := by
  refine ⟨List.nodup_append.2 ⟨h.nd, by simp, ?_⟩, fun w => ?_⟩
  · rintro x hx y hy rfl
    simp only [List.mem_singleton] at hy
    rw [hy] at hx
    exact hw hx
  · rw [h.ins hg hk, mem_insW, ← h.same.2 w, List.mem_append, List.mem_singleton, wordR_next hj]
theorem IL.add {rs : List Ru} (hg : RGood rs) {k j : Nat} (hk : k < rs.length) {us : List (List Int)} (h : IL rs k j us) (hj : j < mostR (nth rs k)) (hw : (wordR (nth rs k)).take j ++ [rd (wordR (nth rs k)) j] ∉ us) (hl : us.length + 1 ≤ 2000) :
    IL rs k (j + 1) (us ++ [(wordR (nth rs k)).take j ++ [rd (wordR (nth rs k)) j]]) := by
  have sm := h.new hg hk hj hw
  refine ⟨sm.1, ⟨List.mem_append_left _ h.pc.1, fun w hm => ?_⟩, by simp; omega, sm, ?_, fun w hm => List.mem_append_left _ (h.sub w hm), by rw [gw_old (List.length_pos_of_mem h.pc.1)]; exact h.zero⟩
  · rcases List.mem_append.1 hm with hm | hm
    · exact List.mem_append_left _ (h.pc.2 w hm)
    · simp only [List.mem_singleton] at hm
      subst hm
      refine List.mem_append_left _ ?_
      rw [List.length_append, List.length_singleton, Nat.add_sub_cancel, List.take_append_of_le_length (Nat.le_refl _), List.take_length]
      exact h.has
  · have e : (wordR (nth rs k)).take (j + 1) = (wordR (nth rs k)).take j ++ [rd (wordR (nth rs k)) j] := by rw [wordR_next hj, wordR_take _ _ (by omega)]
    rw [e]
    simp
theorem IL.full {rs : List Ru} (hg : RGood rs) {k j : Nat} (hk : k < rs.length) {us : List (List Int)} (h : IL rs k j us) (hj : j < mostR (nth rs k)) (hw : (wordR (nth rs k)).take j ++ [rd (wordR (nth rs k)) j] ∉ us) (hl : 2000 < us.length + 1) : 2000 < (wordsOf rs).length := by
  have sm := h.new hg hk hj hw
  have e1 := sm.len (IL.rise hg hk (j + 1))
  rw [List.length_append, List.length_singleton] at e1
  have e2 := insRun_le (nth rs k) (wordsN rs k) (j + 1) (mostR (nth rs k) - (j + 1))
  rw [show j + 1 + (mostR (nth rs k) - (j + 1)) = mostR (nth rs k) by omega] at e2
  have e3 : (wordsN rs (k + 1)).length ≤ (wordsOf rs).length := wordsN_len (rs := rs) (k := k + 1) (n := rs.length) (by omega)
  have e4 : wordsN rs (k + 1) = insRun (nth rs k) (wordsN rs k) (mostR (nth rs k)) := rfl
  rw [e4] at e3
  omega
theorem IR.ix0 {rs : List Ru} {k : Nat} {us : List (List Int)} (h : IR rs k us) : ix us [] = 0 := by
  have := ix_gw h.nd (i := 0) (List.length_pos_of_mem h.pc.1)
  rw [h.zero] at this
  exact this
/-- What is not there is no rule's. -/
theorem fresh_word {rs : List Ru} (hg : RGood rs) {k : Nat} (hk : k ≤ rs.length) {us : List (List Int)} (hl : (wordsN rs k).length ≤ 2000) (hs : ∀ w ∈ wordsN rs k, w ∈ us) {w : List Int} (hw : w ∉ us) : enR rs k w = false ∧ muR rs k w = -1 := by
  have has : Has (wordsN rs k) (rs.take k) := by
    intro r hr
    obtain ⟨i, hi, rfl⟩ := List.mem_iff_getElem.1 hr
    rw [List.length_take] at hi
    rw [List.getElem_take]
    have f := hg.2 i (by omega)
    have en : nth rs i = rs[i] := nth_get (by omega)
    rw [← en]
    have hm : ∀ j, 1 ≤ j → j ≤ mostR (nth rs i) → (nth rs i).seq.take j ∈ wordsN rs k := by
      intro j h1 h2
      refine wordsN_sub (k := i + 1) (by omega) _ (ins_mem _ _ _ ?_ j h1 h2)
      exact Nat.le_trans (wordsN_len (rs := rs) (k := i + 1) (n := k) (by omega)) hl
    constructor
    · intro ho
      exact hm ((nth rs i).seq.length - 1) (by have := f.1; omega) (by unfold mostR; rw [if_pos ho]; exact Nat.le_refl _)
    · intro ho
      have := hm (nth rs i).seq.length (by have := f.1; omega) (by unfold mostR; rw [if_neg (by rw [ho]; simp)]; exact Nat.le_refl _)
      rwa [List.take_length] at this
  have hnot : w ∉ wordsN rs k := fun h => hw (hs w h)
  constructor
  · unfold enR
    rw [List.any_eq_false]
    intro r hr he
    unfold badE at he
    simp at he
    exact hnot (he.2 ▸ (has r hr).2 he.1)
  · unfold muR
    rw [mustOf_congr (q := fun _ => false) fun r hr => ?_]
    · have : ∀ l : List Ru, mustOf (fun _ => false) l = -1 := by
        intro l
        induction l with
        | nil => rfl
        | cons x l ih => rw [mustOf_cons]; simpa using ih
      exact this _
    · cases hq : pE w r with
      | false => rfl
      | true =>
        unfold pE at hq
        simp at hq
        exact absurd (hq.2 ▸ (has r hr).1 hq.1) hnot
end Cal

/- impl.BuildAuto: one rule. -/
set_option linter.unusedSimpArgs false
set_option linter.unusedVariables false
namespace Cal
open Go Go.Proofs Auto AC
set_option maxRecDepth 100000
/-- Between the rules. -/
structure SR (rs : List Ru) (k : Nat) (us : List (List Int)) (st0 s : St) : Prop where
  s2 : s.tm 2 = .ptr (79002, 0) 0 0
  o2 : s.ob (79002, 0) = some (.var (emptyA 0))
  s3 : s.tm 3 = .ptr (70100, 0) 0 0
  s4 : s.tm 4 = .t (.v (.int .i64 us.length))
  s31 : s.tm 31 = .t (recs encRu rs)
  s32 : s.tm 32 = .t (.v (.int .i64 rs.length))
  s33 : s.tm 33 = .t (.v (.int .i64 k))
  nd : Nodes us (enR rs k) (muR rs k) (fun _ => 0) s
  q : Keep F0b st0 s
set_option maxHeartbeats 0 in
/-- The inner loop. -/
theorem down_all {rs : List Ru} (hg : RGood rs) {k : Nat} (hk : k < rs.length) {us : List (List Int)} {st0 s : St} (hc : st0.Calm F0b F0b) (hI : IL rs k 0 us) (h : SI rs k (nth rs k) (wordR (nth rs k)) us (enR rs k) (muR rs k) 0 st0 s) {Q : Ex → St → Prop}
    (hE : ∀ us' s', IL rs k (mostR (nth rs k)) us' → SI rs k (nth rs k) (wordR (nth rs k)) us' (enR rs k) (muR rs k) (mostR (nth rs k)) st0 s' → Q (.exit 2) s')
    (hR : 2000 < (wordsOf rs).length → ∀ s', s'.tm 2 = .ptr (79002, 0) 0 0 → s'.ob (79002, 0) = some (.var (emptyA 13)) → Q .ret s') : wp2 Try.prog (.loop k32_l1) Q s := by
  have wl := wordR_len (nth rs k)
  have f := hg.2 k hk
  have hm : mostR (nth rs k) ≤ 402 ∧ mostR (nth rs k) ≤ (nth rs k).seq.length := by
    have := f.2.1
    unfold mostR
    split <;> omega
  refine wp2_loop (fun n s => ∃ us j, IL rs k j us ∧ SI rs k (nth rs k) (wordR (nth rs k)) us (enR rs k) (muR rs k) j st0 s ∧ j ≤ mostR (nth rs k) ∧ n = mostR (nth rs k) - j) (mostR (nth rs k)) ?_ ?_
  · exact ⟨us, 0, hI, h, by omega, rfl⟩
  · rintro n s ⟨us, j, hI, h, hj, rfl⟩ K hK
    by_cases hlt : j < mostR (nth rs k)
    · have he : 0 ≤ rd (wordR (nth rs k)) j ∧ rd (wordR (nth rs k)) j < 4000 := by
        rw [wordR_rd _ _ hlt]
        exact f.2.2 j (by omega)
      have wl' : (wordsN rs k).length ≤ 2000 := by
        have := List.Nodup.length_le_of_subset (rising_nodup (wordsN_sm hg k (by omega)).rise) (fun w hw => hI.sub w hw)
        have := hI.len
        omega
      by_cases hw : (wordR (nth rs k)).take j ++ [rd (wordR (nth rs k)) j] ∈ us
      · exact down_1 h (by omega) (by omega) hI.nd hI.has he.1 he.2 hc hw fun s' h' => hK (mostR (nth rs k) - (j + 1)) s' (by omega) ⟨us, j + 1, hI.old hg hk hlt hw, h', by omega, rfl⟩
      · obtain ⟨h1, h2⟩ := fresh_word hg (by omega) wl' hI.sub hw
        exact down_2 h (by omega) (by omega) hI.nd hI.has he.1 he.2 hc hw hI.pc hI.len h1 h2 (fun hl s' h' => hK (mostR (nth rs k) - (j + 1)) s' (by omega) ⟨_, j + 1, hI.add hg hk hlt hw hl, h', by omega, rfl⟩) (fun hl => hR (hI.full hg hk hlt hw hl))
    · obtain rfl : j = mostR (nth rs k) := by omega
      have hq := hE us
      obtain ⟨s2, o2, s3, s4, s6, o6, s8, s31, s32, s33, s47, s48, s49, nd, q⟩ := h
      unfold k32_l1
      repeat' (first
       | refine wp2_seq fun K hK => ?_
       | refine M_cons fun K hK => ?_
       | (refine hK _ ?_; clear hK K)
       | (refine hY _ ?_; clear hX hY X Y)
       | refine wp2_region ?_
       | refine wp2_cond fun X Y hX hY => ?_
       | (refine condK_of (fun c => ?_) (fun c => ?_) <;> (try simp [-List.length_eq_zero_iff] at c))
       | simp (maxSteps := 4000000) (disch := omega) [s49, s48, wl])
      all_goals first | omega | skip
      refine hq _ hI ⟨by simp [s2], by simp [o2], by simp [s3], by simp [s4], by simp [s6], by simp [o6], by simp [s8], by simp [s31], by simp [s32], by simp [s33], by simp [s47], by simp [s48, wl], by simp [s49], fun i hi => by simpa using nd i hi, by (repeat' first | exact q | exact q _ | refine Keep.put ?_ _ _ | refine Keep.setOb ?_ (by first | rfl | simp) _ | refine Keep.kill hc ?_ (by first | rfl | simp) | refine Keep.ren hc ?_ (by first | rfl | simp) | refine Keep.ren1 hc ?_ (by first | rfl | simp) | refine Keep.kill1 hc ?_ (by first | rfl | simp))⟩
end Cal

/- impl.BuildAuto: one rule: the round. -/
set_option linter.unusedSimpArgs false
set_option linter.unusedVariables false
namespace Cal
open Go Go.Proofs Auto AC
set_option maxRecDepth 100000
theorem nodes_mark {us : List (List Int)} {en en' : List Int → Bool} {mu mu' : List Int → Int} {s s' : St} {p : Nat} (h : Nodes us en mu (fun _ => 0) s) (hn : us.Nodup) (hp : p < us.length) (he : ∀ w, w ≠ gw us p → en' w = en w ∧ mu' w = mu w)
    (o1 : s'.ob (70100, p) = some (.var (nodeV us en' mu' 0 p))) (o2 : ∀ i, i < us.length → i ≠ p → s'.ob (70100, i) = s.ob (70100, i)) (o3 : ∀ i, i < us.length → s'.ob (70101, i) = s.ob (70101, i)) : Nodes us en' mu' (fun _ => 0) s' := by
  intro i hi
  obtain ⟨n1, n2⟩ := h i hi
  refine ⟨?_, by rw [o3 i hi, n2]⟩
  by_cases hq : i = p
  · subst hq
    exact o1
  · rw [o2 i hi hq, n1]
    have hne : gw us i ≠ gw us p := fun e => hq (gw_inj hn hi hp e)
    obtain ⟨e1, e2⟩ := he _ hne
    unfold nodeV
    rw [e1, e2]
set_option maxHeartbeats 0 in
theorem rule_l0 {rs : List Ru} (hg : RGood rs) {k : Nat} {us : List (List Int)} {st0 s : St} (hc : st0.Calm F0b F0b) (hI : IR rs k us) (h : SR rs k us st0 s) (hk : k ≤ rs.length) (hz : ix us [] = 0) {K : St → Prop} {Q : Ex → St → Prop}
    (hK' : k < rs.length → ∀ us' s', IR rs (k + 1) us' → SR rs (k + 1) us' st0 s' → K s') (hE : k = rs.length → ∀ s', SR rs k us st0 s' → Q (.exit 0) s')
    (hR : 2000 < (wordsOf rs).length → ∀ s', s'.tm 2 = .ptr (79002, 0) 0 0 → s'.ob (79002, 0) = some (.var (emptyA 13)) → Q .ret s') : wp2 Try.prog k32_l0 (thenQ K Q) s := by
  have hl1 := hg.1
  obtain ⟨s2, o2, s3, s4, s31, s32, s33, nd, q⟩ := h
  unfold k32_l0
  by_cases hlt : k < rs.length
  · have f := hg.2 k hlt
    have hK' := hK' hlt
    clear hE
    have hm : mostR (nth rs k) ≤ 402 ∧ mostR (nth rs k) ≤ (nth rs k).seq.length := by
      have := f.2.1
      unfold mostR
      split <;> omega
    have wl := wordR_len (nth rs k)
    have gw0 : ix us [] = 0 := hz
    have dall := fun us' s' => @down_all rs hg k hlt us' st0 s' hc
    generalize hr : nth rs (k : Int) = r at *
    obtain ⟨f1, f2, f3⟩ := f
    cases ho : r.only with
    | true =>
      have em : (r.seq.length : Int) - 1 = (mostR r : Int) := by unfold mostR; rw [if_pos ho]; omega
      have ew : r.seq.take (mostR r) = wordR r := by unfold wordR preR mostR; rw [if_pos ho, if_pos ho]
      repeat' (first
       | refine wp2_seq fun K hK => ?_
       | refine M_cons fun K hK => ?_
       | (refine hK _ ?_; clear hK K)
       | (refine hX _ ?_; clear hX hY X Y)
       | refine wp2_block ?_
       | refine wp2_canon (ops := ⟨some 37, _, _⟩ :: _) [(6, 79006)] ?_
       | refine wp2_region ?_
       | refine wp2_cond fun X Y hX hY => ?_
       | (refine condK_of (fun c => ?_) (fun c => ?_) <;> (try simp [-List.length_eq_zero_iff] at c))
       | simp (maxSteps := 4000000) (disch := omega) [s2, o2, s3, s4, s31, s32, s33, hlt, hr, encRu, ho, em, ew])
      all_goals first | omega | skip
      have hJ : ∀ us' s', IL rs k (mostR r) us' → SI rs k r (wordR r) us' (enR rs k) (muR rs k) (mostR r) st0 s' → K s' := by
        intro us' s' hI' h'
        have x0 : (wordR r).take (mostR r) = wordR r := by rw [← wl, List.take_length]
        have hin := hI'.has
        rw [hr, x0] at hin
        obtain ⟨o8, m8⟩ := h'.at8 (by rw [x0]; exact hin)
        obtain ⟨s2, o2, s3, s4, s6, o6, s8, s31, s32, s33, s47, s48, s49, nd, q⟩ := h'
        obtain ⟨x1, x2⟩ := ix_lt hin
        rw [x0] at o8 m8 s8
        have hI2 : IR rs (k + 1) us' := IL.done (by rw [hr]; exact hI')
        have hml : mostR r < r.seq.length := by omega
        have el : lastR r = rd r.seq (mostR r) := by unfold lastR; rw [show r.seq.length - 1 = mostR r by omega]
        have e1 : ∀ w, enR rs (k + 1) w = enR rs k w := fun w => by
          rw [enR_succ hlt, hr]
          unfold badE
          rw [ho]
          simp
        have e2 : ∀ w, muR rs (k + 1) w = if w = wordR r then bothI (muR rs k w) (lastR r) else muR rs k w := fun w => by
          rw [muR_succ hlt, hr]
          unfold pE wordR
          rw [ho]
          simp [eq_comm]
        have gb := both_c (muR rs k (wordR r)) (rd r.seq (mostR r))
        clear hr
        generalize hp : ix us' (wordR r) = p at *
        repeat' (first
         | refine wp2_seq fun K hK => ?_
         | refine M_cons fun K hK => ?_
         | (refine hK _ ?_; clear hK K)
         | (refine hX _ ?_; clear hX hY X Y)
         | refine wp2_region ?_
         | refine wp2_cond fun X Y hX hY => ?_
         | (refine condK_of (fun c => ?_) (fun c => ?_) <;> (try simp [-List.length_eq_zero_iff] at c))
         | (refine callT_fl (gb) (by simp [St.args, St.arg, s2, o2, s3, s4, s6, o6, s8, s31, s32, s33, s47, s48, s49, encRu, ho, em, hml, o8] <;> first | rfl | ((repeat' first | rfl | apply And.intro); first | done | fail)) ?_)
         | simp (maxSteps := 4000000) (disch := omega) [s2, o2, s3, s4, s6, o6, s8, s31, s32, s33, s47, s48, s49, encRu, ho, em, hml, o8])
        all_goals first | omega | skip
        refine hK' us' _ hI2 ⟨by simp [s2], by simp [o2, emptyA], by simp [s3], by simp [s4], by simp [s31], by simp [s32], by simp, ?_, by (repeat' first | exact q | exact q _ | refine Keep.put ?_ _ _ | refine Keep.setOb ?_ (by first | rfl | simp) _ | refine Keep.kill hc ?_ (by first | rfl | simp) | refine Keep.ren hc ?_ (by first | rfl | simp) | refine Keep.ren1 hc ?_ (by first | rfl | simp) | refine Keep.kill1 hc ?_ (by first | rfl | simp))⟩
        refine nodes_mark nd hI'.nd x1 (fun w hw => ⟨e1 w, by rw [e2, if_neg (by rw [x2] at hw; exact hw)]⟩) ?_ (fun i hi hne => ?_) (fun i hi => ?_)
        · simp [nodeV, x2, e1, e2, el]
        · simp [hne, (nd i hi).1]
        · simp [(nd i hi).2]
      clear hK hK'
      refine dall us _ hI.start ?_ (fun us' s' a b => by simpa using hJ us' s' a b) (fun hl s' a b => by simpa using hR hl s' a b)
      exact ⟨by simp [s2], by simp [o2, emptyA], by simp [s3], by simp [s4], by simp, by simp [encRu, ho], by simp [gw0], by simp [s31], by simp [s32], by simp [s33], by simp, by simp [wl], by simp, fun i hi => by simp [(nd i hi).1, (nd i hi).2], by (repeat' first | exact q | exact q _ | refine Keep.put ?_ _ _ | refine Keep.setOb ?_ (by first | rfl | simp) _ | refine Keep.kill hc ?_ (by first | rfl | simp) | refine Keep.ren hc ?_ (by first | rfl | simp) | refine Keep.ren1 hc ?_ (by first | rfl | simp) | refine Keep.kill1 hc ?_ (by first | rfl | simp))⟩
    | false =>
      have ew : wordR r = r.seq := by unfold wordR; rw [ho]; simp
      have em : mostR r = r.seq.length := by unfold mostR; rw [ho]; simp
      repeat' (first
       | refine wp2_seq fun K hK => ?_
       | refine M_cons fun K hK => ?_
       | (refine hK _ ?_; clear hK K)
       | (refine hX _ ?_; clear hX hY X Y)
       | (refine hY _ ?_; clear hX hY X Y)
       | refine wp2_block ?_
       | refine wp2_canon (ops := ⟨some 37, _, _⟩ :: _) [(6, 79006)] ?_
       | refine wp2_region ?_
       | refine wp2_cond fun X Y hX hY => ?_
       | (refine condK_of (fun c => ?_) (fun c => ?_) <;> (try simp [-List.length_eq_zero_iff] at c))
       | simp (maxSteps := 4000000) (disch := omega) [s2, o2, s3, s4, s31, s32, s33, hlt, hr, encRu, ho])
      all_goals first | omega | skip
      have hJ : ∀ us' s', IL rs k (mostR r) us' → SI rs k r (wordR r) us' (enR rs k) (muR rs k) (mostR r) st0 s' → K s' := by
        intro us' s' hI' h'
        have x0 : (wordR r).take (mostR r) = wordR r := by rw [← wl, List.take_length]
        have hin := hI'.has
        rw [hr, x0] at hin
        obtain ⟨o8, m8⟩ := h'.at8 (by rw [x0]; exact hin)
        obtain ⟨s2, o2, s3, s4, s6, o6, s8, s31, s32, s33, s47, s48, s49, nd, q⟩ := h'
        obtain ⟨x1, x2⟩ := ix_lt hin
        rw [x0] at o8 m8 s8
        have hI2 : IR rs (k + 1) us' := IL.done (by rw [hr]; exact hI')
        have e1 : ∀ w, enR rs (k + 1) w = (enR rs k w || decide (r.seq = w)) := fun w => by
          rw [enR_succ hlt, hr]
          unfold badE
          rw [ho]
          simp
        have e2 : ∀ w, muR rs (k + 1) w = muR rs k w := fun w => by
          rw [muR_succ hlt, hr]
          unfold pE
          rw [ho]
          simp
        clear hr
        generalize hp : ix us' (wordR r) = p at *
        repeat' (first
         | refine wp2_seq fun K hK => ?_
         | refine M_cons fun K hK => ?_
         | (refine hK _ ?_; clear hK K)
         | (refine hY _ ?_; clear hX hY X Y)
         | refine wp2_region ?_
         | refine wp2_cond fun X Y hX hY => ?_
         | (refine condK_of (fun c => ?_) (fun c => ?_) <;> (try simp [-List.length_eq_zero_iff] at c))
         | simp (maxSteps := 4000000) (disch := omega) [s2, o2, s3, s4, s6, o6, s8, s31, s32, s33, s47, s48, s49, encRu, ho, o8])
        all_goals first | omega | skip
        refine hK' us' _ hI2 ⟨by simp [s2], by simp [o2, emptyA], by simp [s3], by simp [s4], by simp [s31], by simp [s32], by simp, ?_, by (repeat' first | exact q | exact q _ | refine Keep.put ?_ _ _ | refine Keep.setOb ?_ (by first | rfl | simp) _ | refine Keep.kill hc ?_ (by first | rfl | simp) | refine Keep.ren hc ?_ (by first | rfl | simp) | refine Keep.ren1 hc ?_ (by first | rfl | simp) | refine Keep.kill1 hc ?_ (by first | rfl | simp))⟩
        refine nodes_mark nd hI'.nd x1 (fun w hw => ⟨by rw [e1, decide_eq_false (by rw [x2, ew] at hw; exact fun e => hw e.symm), Bool.or_false], e2 w⟩) ?_ (fun i hi hne => ?_) (fun i hi => ?_)
        · simp [nodeV, x2, e1, e2, ew]
        · simp [hne, (nd i hi).1]
        · simp [(nd i hi).2]
      clear hK hK'
      refine dall us _ hI.start ?_ (fun us' s' a b => by simpa using hJ us' s' a b) (fun hl s' a b => by simpa using hR hl s' a b)
      exact ⟨by simp [s2], by simp [o2, emptyA], by simp [s3], by simp [s4], by simp, by simp [encRu, ho], by simp [gw0], by simp [s31], by simp [s32], by simp [s33], by simp [ew], by simp [wl, em], by simp, fun i hi => by simp [(nd i hi).1, (nd i hi).2], by (repeat' first | exact q | exact q _ | refine Keep.put ?_ _ _ | refine Keep.setOb ?_ (by first | rfl | simp) _ | refine Keep.kill hc ?_ (by first | rfl | simp) | refine Keep.ren hc ?_ (by first | rfl | simp) | refine Keep.ren1 hc ?_ (by first | rfl | simp) | refine Keep.kill1 hc ?_ (by first | rfl | simp))⟩
  · obtain rfl : k = rs.length := by omega
    repeat' (first
     | refine wp2_seq fun K hK => ?_
     | refine M_cons fun K hK => ?_
     | (refine hK _ ?_; clear hK K)
     | (refine hY _ ?_; clear hX hY X Y)
     | refine wp2_region ?_
     | refine wp2_cond fun X Y hX hY => ?_
     | (refine condK_of (fun c => ?_) (fun c => ?_) <;> (try simp [-List.length_eq_zero_iff] at c))
     | simp (maxSteps := 4000000) (disch := omega) [s33, s32])
    all_goals first | omega | skip
    refine hE rfl _ ⟨by simp [s2], by simp [o2], by simp [s3], by simp [s4], by simp [s31], by simp [s32], by simp [s33], fun i hi => by simp [(nd i hi).1, (nd i hi).2], by (repeat' first | exact q | exact q _ | refine Keep.put ?_ _ _ | refine Keep.setOb ?_ (by first | rfl | simp) _ | refine Keep.kill hc ?_ (by first | rfl | simp) | refine Keep.ren hc ?_ (by first | rfl | simp) | refine Keep.ren1 hc ?_ (by first | rfl | simp) | refine Keep.kill1 hc ?_ (by first | rfl | simp))⟩
end Cal
