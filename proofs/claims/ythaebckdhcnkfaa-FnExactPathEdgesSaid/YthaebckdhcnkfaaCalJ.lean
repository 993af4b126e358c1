/- A calculus of our own, ninth part: new objects, frozen rows, stores. No program is named here. -/
import Derived.Test.YthaebckdhcnkfaaCalI
set_option linter.unusedSimpArgs false
set_option linter.unusedVariables false
namespace Cal
open Go Go.RowKit

variable {P : Program} {w0 w : World} {S0 S : Nat → Prop} {own : List Nat} {N : Nat} {m cap : Id → Nat} {st : St} {a : Act}

/-- The state names no object of this sort, and has none. -/
structure St.Free (s : St) (p : Id → Prop) : Prop where
  tm : ∀ t, (s.tm t).free p
  var : ∀ id cs, s.ob id = some (.var cs) → AV.frees p cs
  none : ∀ id, p id → s.ob id = none

theorem Ob.leads_refl : ∀ o : Option Ob, Ob.leads o o
  | .none => trivial
  | some (.var cs) => rfl
  | some (.row sz es) => ⟨rfl, rfl⟩
  | some (.frz sz es) => ⟨rfl, rfl⟩

mutual
theorem AV.free_false : ∀ v : AV, v.free (fun _ => False)
  | .t _ => trivial
  | .row .. => by unfold AV.free; exact id
  | .ptr .. => by unfold AV.free; exact id
  | .roptr _ => trivial
  | .agg cs => by unfold AV.free; exact AV.frees_false cs
  | .tup cs => by unfold AV.free; exact AV.frees_false cs
  | .bad => trivial
theorem AV.frees_false : ∀ vs : List AV, AV.frees (fun _ => False) vs
  | [] => trivial
  | v :: vs => by unfold AV.frees; exact ⟨AV.free_false v, AV.frees_false vs⟩
end

theorem OwnRow.keep {w w' : World} {S S' : Nat → Prop} {b sz cap : Nat} {es : List (List T)} (h : OwnRow w S b sz es cap) (hw : Same S w w') (hs : ∀ b, S b → S' b) (hb : w'.heap[b]? = w.heap[b]?) : OwnRow w' S' b sz es cap := by
  obtain ⟨⟨arr, ty, h1, h2⟩, h3, h4, h5⟩ := h
  exact ⟨⟨arr, ty, by rw [hb]; exact h1, h2⟩, h3, h4, h5.keep hw hs hb⟩

theorem OwnRow.lt {w : World} {S : Nat → Prop} {b sz cap : Nat} {es : List (List T)} (h : OwnRow w S b sz es cap) : b < w.heap.size := by
  obtain ⟨⟨arr, ty, h1, h2⟩, _⟩ := h
  exact (Array.getElem?_eq_some_iff.1 h1).1

theorem ObRep.lt {id : Id} {o : Ob} {ob : Id → Option Ob} (h : ObRep w S m cap ob id o) : m id < w.heap.size := by
  cases o with
  | var cs => obtain ⟨⟨arr, ty, h1, _⟩, _⟩ := h; exact (Array.getElem?_eq_some_iff.1 h1).1
  | row sz es => exact h.1.lt
  | frz sz es => exact h.1.lt

/-- An object is kept while its block is. -/
theorem ObRep.keep {w w' : World} {S S' : Nat → Prop} {m m' cap cap' : Id → Nat} {ob ob' : Id → Option Ob} {p : Id → Prop} {id : Id} {o : Ob} (h : ObRep w S m cap ob id o) (hw : Same S w w') (hs : ∀ b, S b → S' b) (ht : Turn p m m' cap cap' ob ob')
    (hp : ¬ p id) (hf : ∀ cs, o = .var cs → AV.frees p cs) (hb : w'.heap[m id]? = w.heap[m id]?) (hn : ¬ S (m id) → ¬ S' (m id)) : ObRep w' S' m' cap' ob' id o := by
  obtain ⟨e1, e2⟩ := ht.blk id hp
  cases o with
  | var cs =>
    obtain ⟨⟨arr, ty, h1, h2⟩, h4⟩ := h
    unfold ObRep
    rw [e1]
    exact ⟨⟨arr, ty, by rw [hb]; exact h1, AVreps.keep hw hs ht cs _ (hf cs rfl) h2⟩, hn h4⟩
  | row sz es =>
    unfold ObRep
    rw [e1, e2]
    exact ⟨h.1.keep hw hs hb, hn h.2⟩
  | frz sz es =>
    unfold ObRep
    rw [e1, e2]
    exact ⟨h.1.keep hw hs hb, hs _ h.2⟩

theorem heap_alloc_old (w : World) (o : Obj) {b : Nat} (h : b < w.heap.size) : (w.alloc o).heap[b]? = w.heap[b]? := Below.heap_alloc w o b h

theorem After.alloc {own : List Nat} {w0 w : World} (h : After own w0 w) (o : Obj) : After own w0 (w.alloc o) :=
  ⟨h.os, h.tape, h.output, Nat.le_trans h.size (by simp), fun k hk hn => (heap_alloc_old w o (Nat.lt_of_lt_of_le hk h.size)).trans (h.block k hk hn)⟩

def upd (f : Id → Nat) (id : Id) (n : Nat) : Id → Nat := fun i => if i = id then n else f i

/-- A new object in a new block. -/
theorem RelAt.new (h : RelAt w0 S0 own N m cap S st a w) {id : Id} (hf : st.Free (· = id)) {arr : Array Value} {ty : TypeId} {o : Ob} {c : Nat}
    (ho : ObRep (w.alloc (.cells arr ty)) S (upd m id w.heap.size) (upd cap id c) (st.setOb id (some o)).ob id o) :
    RelAt w0 S0 own N (upd m id w.heap.size) (upd cap id c) S (st.setOb id (some o)) a (w.alloc (.cells arr ty)) := by
  have hn := hf.none id rfl
  have hsame : Same S w (w.alloc (.cells arr ty)) := fun b hb => heap_alloc_old w _ (h.stab b hb)
  have ht : Turn (· = id) m (upd m id w.heap.size) cap (upd cap id c) st.ob (st.setOb id (some o)).ob :=
    ⟨fun i hi => by simp only [St.setOb, if_neg hi]; exact Ob.leads_refl _, fun i hi => by simp [upd, hi]⟩
  have hlt : ∀ i o', st.ob i = some o' → m i < w.heap.size := fun i o' hi => (h.obs i o' hi).lt
  refine ⟨h.size, h.defers, h.after.alloc _, fun b hb => Nat.lt_of_lt_of_le (h.stab b hb) (by simp), h.base, h.fresh, fun i o' hi => ?_, fun i o' hi => ?_, fun i j hi hj he => ?_, fun t ht' => ?_, h.far⟩
  · by_cases e : i = id
    · subst e
      simp only [St.setOb, if_true] at hi
      cases hi
      exact ho
    · simp only [St.setOb, if_neg e] at hi
      exact (h.obs i o' hi).keep hsame (fun _ hb => hb) ht e (fun cs hc => hf.var i cs (by rw [hi, hc])) (heap_alloc_old w _ (hlt i o' hi)) (fun hx => hx)
  · by_cases e : i = id
    · subst e
      left
      simp only [upd, if_true]
      exact h.after.size
    · simp only [St.setOb, if_neg e] at hi
      simp only [upd, if_neg e]
      exact h.mine i o' hi
  · by_cases e : i = id <;> by_cases e' : j = id
    · rw [e, e']
    · subst e
      simp only [upd, if_true, if_neg e'] at he
      simp only [St.setOb, if_neg e'] at hj
      obtain ⟨o', ho'⟩ := Option.ne_none_iff_exists'.1 hj
      have := hlt j o' ho'
      omega
    · subst e'
      simp only [upd, if_true, if_neg e] at he
      simp only [St.setOb, if_neg e] at hi
      obtain ⟨o', ho'⟩ := Option.ne_none_iff_exists'.1 hi
      have := hlt i o' ho'
      omega
    · simp only [upd, if_neg e, if_neg e'] at he
      simp only [St.setOb, if_neg e] at hi
      simp only [St.setOb, if_neg e'] at hj
      exact h.inj i j hi hj he
  · exact AVrep.keep hsame (fun _ hb => hb) ht _ _ (hf.tm t) (h.tm t ht')

/-- A row that is no longer written: its block joins those that stay. -/
theorem RelAt.freeze (h : RelAt w0 S0 own N m cap S st a w) {id : Id} {sz : Nat} {es : List (List T)} (ho : st.ob id = some (.row sz es) ∨ st.ob id = some (.frz sz es)) :
    RelAt w0 S0 own N m cap (fun b => S b ∨ b = m id) (st.setOb id (some (.frz sz es))) a w := by
  have hid : st.ob id ≠ none := by rcases ho with ho | ho <;> rw [ho] <;> simp
  have hsame : Same S w w := Same.refl _ _
  have hsub : ∀ b, S b → S b ∨ b = m id := fun b hb => .inl hb
  have ht : Turn (fun _ => False) m m cap cap st.ob (st.setOb id (some (.frz sz es))).ob := by
    refine ⟨fun i _ => ?_, fun i _ => ⟨rfl, rfl⟩⟩
    by_cases e : i = id
    · subst e
      simp only [St.setOb, if_true]
      rcases ho with ho | ho <;> rw [ho] <;> exact ⟨rfl, rfl⟩
    · simp only [St.setOb, if_neg e]; exact Ob.leads_refl _
  have hrow : OwnRow w S (m id) sz es (cap id) := by
    rcases ho with ho | ho
    · exact (h.obs id _ ho).1
    · exact (h.obs id _ ho).1
  have hlive : ∀ i o', (st.setOb id (some (.frz sz es))).ob i = some o' → st.ob i ≠ none := fun i o' hi => by
    by_cases e : i = id
    · subst e; exact hid
    · simp only [St.setOb, if_neg e] at hi; rw [hi]; simp
  have hmine : w0.heap.size ≤ m id ∨ m id ∈ own := by
    rcases ho with ho | ho <;> exact h.mine id _ ho
  refine ⟨h.size, h.defers, h.after, fun b hb => ?_, fun b hb => .inl (h.base b hb), fun b hb => ?_, fun i o' hi => ?_, fun i o' hi => ?_, fun i j hi hj he => ?_, fun t ht' => ?_, h.far⟩
  · rcases hb with hb | rfl
    · exact h.stab b hb
    · exact hrow.lt
  · rcases hb with hb | rfl
    · exact h.fresh b hb
    · exact .inr hmine
  · by_cases e : i = id
    · subst e
      simp only [St.setOb, if_true] at hi
      cases hi
      exact ⟨hrow.keep hsame hsub rfl, .inr rfl⟩
    · simp only [St.setOb, if_neg e] at hi
      refine (h.obs i o' hi).keep hsame hsub ht (fun hx => hx) (fun cs _ => AV.frees_false cs) rfl fun hn hb => ?_
      rcases hb with hb | hb
      · exact hn hb
      · exact e (h.inj i id (by rw [hi]; simp) hid hb)
  · by_cases e : i = id
    · subst e; exact hmine
    · simp only [St.setOb, if_neg e] at hi; exact h.mine i o' hi
  · obtain ⟨o1, h1⟩ := Option.ne_none_iff_exists'.1 hi
    obtain ⟨o2, h2⟩ := Option.ne_none_iff_exists'.1 hj
    exact h.inj i j (hlive i o1 h1) (hlive j o2 h2) he
  · exact AVrep.keep hsame hsub ht _ _ (AV.free_false _) (h.tm t ht')


/-! ### the state behind kills -/
mutual
theorem AV.kill_free (ds : List Nat) : ∀ v : AV, (v.kill ds).free (fun id => id.1 ∈ ds)
  | .t _ => by unfold AV.kill; trivial
  | .row id sz i n => by
    unfold AV.kill
    split
    · trivial
    · unfold AV.free; assumption
  | .ptr id i j => by
    unfold AV.kill
    split
    · trivial
    · unfold AV.free; assumption
  | .roptr _ => by unfold AV.kill; trivial
  | .agg cs => by unfold AV.kill AV.free; exact AV.kills_free ds cs
  | .tup cs => by unfold AV.kill AV.free; exact AV.kills_free ds cs
  | .bad => by unfold AV.kill; trivial
theorem AV.kills_free (ds : List Nat) : ∀ vs : List AV, AV.frees (fun id => id.1 ∈ ds) (AV.kills ds vs)
  | [] => by unfold AV.kills; trivial
  | v :: vs => by unfold AV.kills AV.frees; exact ⟨AV.kill_free ds v, AV.kills_free ds vs⟩
end

mutual
theorem AV.kill_rep {ob : Id → Option Ob} (ds : List Nat) : ∀ (v : AV) (u : Value), AVrep w S m cap ob v u → AVrep w S m cap ob (v.kill ds) u
  | .t _, u, h => by unfold AV.kill; exact h
  | .row id sz i n, u, h => by
    unfold AV.kill
    split
    · unfold AVrep; trivial
    · exact h
  | .ptr id i j, u, h => by
    unfold AV.kill
    split
    · unfold AVrep; trivial
    · exact h
  | .roptr _, u, h => by unfold AV.kill; exact h
  | .agg cs, u, h => by
    unfold AV.kill AVrep at *
    obtain ⟨us, h1, h2⟩ := h
    exact ⟨us, h1, AV.kills_rep ds cs us h2⟩
  | .tup cs, u, h => by
    unfold AV.kill AVrep at *
    obtain ⟨us, h1, h2⟩ := h
    exact ⟨us, h1, AV.kills_rep ds cs us h2⟩
  | .bad, u, h => by unfold AV.kill; exact h
theorem AV.kills_rep {ob : Id → Option Ob} (ds : List Nat) : ∀ (vs : List AV) (us : List Value), AVreps w S m cap ob vs us → AVreps w S m cap ob (AV.kills ds vs) us
  | [], us, h => by unfold AV.kills; exact h
  | v :: vs, us, h => by
    unfold AV.kills AVreps at *
    obtain ⟨u, us', h1, h2, h3⟩ := h
    exact ⟨u, us', h1, AV.kill_rep ds v u h2, AV.kills_rep ds vs us' h3⟩
end

theorem AV.kills_length (ds : List Nat) : ∀ vs : List AV, (AV.kills ds vs).length = vs.length
  | [] => by unfold AV.kills; rfl
  | v :: vs => by unfold AV.kills; simp [AV.kills_length ds vs]


theorem St.kill_free (s : St) (ds : List Nat) : (s.kill ds).Free (fun id => id.1 ∈ ds) := by
  unfold St.kill
  split
  · rename_i h
    subst h
    have e : (fun id : Id => id.1 ∈ ([] : List Nat)) = fun _ => False := by funext id; simp
    rw [e]
    exact ⟨fun t => AV.free_false _, fun _ cs _ => AV.frees_false cs, fun _ h => h.elim⟩
  · refine ⟨fun t => AV.kill_free ds _, fun id cs hc => ?_, fun id hid => by simp [hid]⟩
    dsimp only at hc
    split at hc
    · cases hc
    · cases ho : s.ob id with
      | none => rw [ho] at hc; cases hc
      | some o =>
        rw [ho] at hc
        cases o with
        | var cs' =>
          simp only [Option.map_some, Ob.kill, Option.some.injEq, Ob.var.injEq] at hc
          subst hc
          exact AV.kills_free ds cs'
        | row sz es => simp [Ob.kill] at hc
        | frz sz es => simp [Ob.kill] at hc

theorem RelAt.kill (h : RelAt w0 S0 own N m cap S st a w) (ds : List Nat) : RelAt w0 S0 own N m cap S (st.kill ds) a w := by
  unfold St.kill
  split
  · exact h
  · have ht : Turn (fun _ => False) m m cap cap st.ob (fun id => if id.1 ∈ ds then none else (st.ob id).map (Ob.kill ds)) := by
      refine ⟨fun i _ => ?_, fun i _ => ⟨rfl, rfl⟩⟩
      split
      · cases st.ob i with
        | none => trivial
        | some o => cases o <;> trivial
      · cases st.ob i with
        | none => trivial
        | some o =>
          cases o with
          | var cs => simp [Ob.leads, Ob.kill, AV.kills_length]
          | row sz es => exact ⟨rfl, rfl⟩
          | frz sz es => exact ⟨rfl, rfl⟩
    have hlive : ∀ i o', (fun id : Id => if id.1 ∈ ds then none else (st.ob id).map (Ob.kill ds)) i = some o' → ∃ o, st.ob i = some o ∧ o' = o.kill ds := fun i o' hi => by
      dsimp only at hi
      split at hi
      · cases hi
      · cases ho : st.ob i with
        | none => rw [ho] at hi; cases hi
        | some o =>
          rw [ho] at hi
          simp only [Option.map_some, Option.some.injEq] at hi
          exact ⟨o, rfl, hi.symm⟩
    refine ⟨h.size, h.defers, h.after, h.stab, h.base, h.fresh, fun i o' hi => ?_, fun i o' hi => ?_, fun i j hi hj he => ?_, fun t ht' => ?_, fun t ht' => ?_⟩
    · obtain ⟨o, ho, rfl⟩ := hlive i o' hi
      have := (h.obs i o ho).keep (Same.refl _ _) (fun _ hb => hb) ht (fun hx => hx) (fun cs _ => AV.frees_false cs) rfl (fun hx => hx)
      cases o with
      | var cs =>
        obtain ⟨⟨arr, ty, h1, h2⟩, h4⟩ := this
        exact ⟨⟨arr, ty, h1, AV.kills_rep ds cs _ h2⟩, h4⟩
      | row sz es => exact this
      | frz sz es => exact this
    · obtain ⟨o, ho, _⟩ := hlive i o' hi
      exact h.mine i o ho
    · obtain ⟨o1, h1⟩ := Option.ne_none_iff_exists'.1 hi
      obtain ⟨o2, h2⟩ := Option.ne_none_iff_exists'.1 hj
      obtain ⟨_, k1, _⟩ := hlive i o1 h1
      obtain ⟨_, k2, _⟩ := hlive j o2 h2
      exact h.inj i j (by rw [k1]; simp) (by rw [k2]; simp) he
    · exact AVrep.keep (Same.refl _ _) (fun _ hb => hb) ht _ _ (by
        have := AV.free_false ((st.tm t).kill ds)
        exact this) (AV.kill_rep ds _ _ (h.tm t ht'))
    · show AV.kill ds (st.tm t) = .bad
      rw [h.far t ht']
      unfold AV.kill; rfl

/-! ### stores -/
theorem heap_set_self {w : World} {b : Nat} {arr : Array Value} {ty : TypeId} (h : w.heap[b]? = some (.cells arr ty (0, 0))) (off : Nat) (u : Value) :
    (w.setCell ⟨b, off, none⟩ u).heap[b]? = some (.cells (arr.setIfInBounds off u) ty (0, 0)) := by
  simp only [World.setCell, Array.getElem?_modify, if_true, h, Option.map_some]
  rfl

theorem run_store1 {w : World} {b : Nat} {arr : Array Value} {ty : TypeId} (h : w.heap[b]? = some (.cells arr ty (0, 0))) {off : Nat} (hoff : off < arr.size) (u : Value) (hu : (∀ cs, u ≠ .agg cs) ∧ ∀ cs, u ≠ .tuple cs) :
    (store ⟨b, off, none⟩ u).run P w = .ok () (w.setCell ⟨b, off, none⟩ u) := by
  have hc : w.cell? ⟨b, off, none⟩ = some arr[off] := by
    unfold World.cell?
    simp only [h]
    simp [hoff]
  have hf : w.frozen? ⟨b, off, none⟩ = false := by
    unfold World.frozen?
    simp only [h]
    simp
  cases u with
  | agg cs => exact absurd rfl (hu.1 cs)
  | tuple cs => exact absurd rfl (hu.2 cs)
  | _ => simp [store, Sem.run, hc, hf]

/-- Cells written one behind the other. -/
def putAll (arr : Array Value) (off : Nat) : List Value → Array Value
  | [] => arr
  | u :: us => putAll (arr.setIfInBounds off u) (off + 1) us

theorem putAll_size : ∀ (us : List Value) (arr : Array Value) (off : Nat), (putAll arr off us).size = arr.size
  | [], _, _ => rfl
  | u :: us, arr, off => by unfold putAll; rw [putAll_size us]; simp

def Single (u : Value) : Prop := (∀ cs, u ≠ .agg cs) ∧ ∀ cs, u ≠ .tuple cs

theorem run_storeFrom {b : Nat} {ty : TypeId} (off0 : Nat) : ∀ (us : List Value) (i : Nat) (w : World) (arr : Array Value), w.heap[b]? = some (.cells arr ty (0, 0)) → off0 + i + us.length ≤ arr.size → (∀ u ∈ us, Single u) →
    ∃ w', (storeCells ⟨b, off0, none⟩ us i).run P w = .ok () w' ∧ w'.heap[b]? = some (.cells (putAll arr (off0 + i) us) ty (0, 0)) ∧ (∀ k, k ≠ b → w'.heap[k]? = w.heap[k]?) ∧
      w'.os = w.os ∧ w'.tape = w.tape ∧ w'.output = w.output ∧ w'.heap.size = w.heap.size
  | [], i, w, arr, h, _, _ => ⟨w, by simp [storeCells], h, fun _ _ => rfl, rfl, rfl, rfl, rfl⟩
  | u :: us, i, w, arr, h, hl, hs => by
    simp only [List.length_cons] at hl
    have h1 := run_store1 (P := P) h (off := off0 + i) (by omega) u (hs u (by simp))
    obtain ⟨w', g1, g2, g3, g4, g5, g6, g7⟩ := run_storeFrom off0 us (i + 1) (w.setCell ⟨b, off0 + i, none⟩ u) (arr.setIfInBounds (off0 + i) u) (heap_set_self h _ _) (by simp; omega) (fun x hx => hs x (by simp [hx]))
    refine ⟨w', ?_, g2, fun k hk => ?_, g4, g5, g6, ?_⟩
    · simp only [storeCells, add_none, Sem.run_bind, h1, Result.andThen_ok]
      exact g1
    · rw [g3 k hk]
      exact Below.heap_setCell _ _ _ _ hk
    · rw [g7]; simp [World.setCell]

end Cal
