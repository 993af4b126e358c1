/- A calculus of our own: rules for reckoning, over the facts of this program. -/
import Derived.Test.YthaebckdhcnkfaaFacts
import Derived.Test.YthaebckdhcnkfaaCalZf
import Derived.KernelRfl
set_option linter.unusedSimpArgs false
set_option linter.unusedVariables false
namespace Cal
open Go Go.Proofs
theorem mixed : Try.prog.follows .mixedOrders = true := by kernel_rfl
attribute [simp] backs backOne outIds outVals outOne ownIds ownIdss frzVals frzValss resultA resA pair2 pair3 St.toRV St.toRVs noRow

/-- A row of int64. -/
def intRow (l : List Int) : List (List T) := l.map fun x => [.v (.int .i64 x)]
@[simp] theorem intRow_length (l : List Int) : (intRow l).length = l.length := by simp [intRow]
theorem intRow_get {l : List Int} {i : Nat} (h : i < l.length) : (intRow l)[i]? = some [.v (.int .i64 (l.getD i 0))] := by
  simp [intRow, h]
@[simp] theorem intRow_getI (l : List Int) (i : Int) (h0 : 0 ≤ i) (h : i < l.length) : (intRow l)[i.toNat]? = some [.v (.int .i64 (rd l i))] := by
  rw [intRow_get (by omega)]
  rfl
theorem intRow_set (l : List Int) (i : Nat) (x : Int) : (intRow l).set i [.v (.int .i64 x)] = intRow (l.set i x) := by
  simp [intRow, List.map_set]
theorem intRow_append (l l' : List Int) : intRow l ++ intRow l' = intRow (l ++ l') := by simp [intRow]
theorem intRow_rep (n : Nat) (x : Int) : List.replicate n [T.v (.int .i64 x)] = intRow (List.replicate n x) := by simp [intRow]
theorem ints_eq (l : List Int) : ints l = .sl (intRow l) := rfl
@[simp] theorem intRow_getN (l : List Int) (i : Nat) (h : i < l.length) : (intRow l)[i]? = some [.v (.int .i64 (rd l i))] := by
  rw [intRow_get h]
  rfl
attribute [simp] intRow_set intRow_append
@[simp] theorem storeA_ptr (st : St) (size : Nat) (x : AV) (id : Id) (i j : Nat) : storeA st size x (.ptr id i j) = if x.cells.length = size ∧ x.cells.all AV.one then match st.ob id with
    | some (.var cs) => if i = 0 ∧ j + size ≤ cs.length then some [(id, some (.var (over cs j x.cells)))] else none
    | some (.row sz es) => match es[i]?, st.toTs x.cells with
      | some e, some xs => if j + size ≤ e.length ∧ noRow id x.cells = true then some (st.frzEffs x.cells ++ [(id, some (.row sz (es.set i (overT e j xs))))]) else none
      | _, _ => none
    | _ => none
    else none := rfl
@[simp] theorem overT_one (a b : T) : overT [a] 0 [b] = [b] := rfl
attribute [simp] St.toT St.toTs St.frzEff St.frzEffs window over
@[simp] theorem index_row (e : Nat) (ag : Bool) (b : Nat) (z : List Value) (id : Id) (sz r k : Nat) (n : Int) (h0 : 0 ≤ n) (h1 : n < k) : indexAddrA (some (e, ⟨ag, sz, b, z⟩)) (.row id sz r k) n = some (.ptr id (r + n.toNat) 0) := by
  have : n.toNat < k := by omega
  simp [indexAddrA, h0, this]
theorem make_int (d : Nat) (e : Nat) (n : Int) (h0 : 0 ≤ n) (h1 : n ≤ 1099511627776) : makeA d (some (e, ⟨false, 1, 8, [.int .i64 0]⟩)) (.t (.v (.int .i64 n))) (.t (.v (.int .i64 n))) = some (.row (d, 0) 1 0 n.toNat, [((d, 0), some (.row 1 (intRow (List.replicate n.toNat 0))))]) := by
  have h2 : n.toNat * 8 ≤ lim := by unfold lim; omega
  simp [makeA, TI.fine, plain, h0, h2, ← intRow_rep]
attribute [simp] make_int plain

theorem eq_of_rd {a b : List Int} (h : a.length = b.length) (k : ∀ i : Nat, i < a.length → rd a i = rd b i) : a = b := by
  apply List.ext_getElem? 
  intro i
  by_cases hi : i < a.length
  · have e := k i hi
    have h1 := rd_at (xs := a) (i := (i : Int)) (by omega) (by omega)
    have h2 := rd_at (xs := b) (i := (i : Int)) (by omega) (by omega)
    simp only [Int.toNat_natCast] at h1 h2
    rw [h1, h2, e]
  · rw [List.getElem?_eq_none (by omega), List.getElem?_eq_none (by omega)]
theorem rd_set_ne {l : List Int} {i j : Nat} {x : Int} (h : j ≠ i) : rd (l.set i x) j = rd l j := by
  unfold rd
  simp only [Int.toNat_natCast, List.getD_eq_getElem?_getD]
  rw [List.getElem?_set_ne (fun e => h e.symm)]
theorem rd_set_eq {l : List Int} {i : Nat} {x : Int} (h : i < l.length) : rd (l.set i x) i = x := by
  unfold rd
  simp only [Int.toNat_natCast, List.getD_eq_getElem?_getD]
  rw [List.getElem?_set_self h]
  rfl
theorem below_succ {p : Nat → Prop} {k : Nat} (h : ∀ i < k, p i) (hk : p k) : ∀ i < k + 1, p i := fun i hi => by
  rcases Nat.lt_or_ge i k with h1 | h1
  · exact h i h1
  · have : i = k := by omega
    rw [this]; exact hk

theorem rd_set_self (l : List Int) (i : Nat) : l.set i (l.getD i 0) = l := by
  apply List.ext_getElem?
  intro j
  rw [List.getElem?_set]
  split
  · rename_i h
    subst h
    split
    · rename_i h2
      rw [List.getD_eq_getElem?_getD]
      simp [List.getElem?_eq_getElem h2]
    · rename_i h2
      rw [List.getElem?_eq_none (by omega)]
  · rfl
theorem callT_fl {P : Program} {f : FuncId} {mute : Bool} {st : St} {vs : List AV} {d : Option Nat} {K : St → Prop} {ags : List Arg} {res : RV} (h : CallsF P f ags res []) (ha : st.args vs ags) (hf : res.flat) (hm : mutsOf vs ags = [])
    (hK : K ((st.eff (retOf d res).2).put d (retOf d res).1)) : callT P f mute st vs d K := callT_flat h hf ha hm hK
attribute [simp] retOf retA retAs
@[simp] theorem sl_ints (l : List Int) : T.sl (intRow l) = ints l := rfl
@[simp] theorem take_intRow (l : List Int) : (intRow l).take l.length = intRow l := by rw [← intRow_length, List.take_length]
theorem flat_intRow (l : List Int) : ∀ e ∈ intRow l, ∀ x ∈ e, T.flat x := by
  intro e he x hx
  obtain ⟨y, _, rfl⟩ := List.mem_map.1 he
  simp at hx
  subst hx
  trivial
@[simp] theorem flat_own (l : List Int) : (RV.own 1 (intRow l)).flat = True := by
  unfold RV.flat
  exact eq_true (flat_intRow l)
end Cal
