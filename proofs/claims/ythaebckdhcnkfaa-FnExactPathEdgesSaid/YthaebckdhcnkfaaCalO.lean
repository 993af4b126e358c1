/- A calculus of our own, fourteenth part: slice literals and appends. No program is named here. -/
import Derived.Test.YthaebckdhcnkfaaCalN
import Derived.Maps.AppendAt
import Derived.ArgAppend
set_option linter.unusedSimpArgs false
set_option linter.unusedVariables false
namespace Cal
open Go Go.RowKit

variable {P : Program} {w0 w : World} {S0 S : Nat → Prop} {own : List Nat} {N : Nat} {m cap : Id → Nat} {st : St} {a : Act}

/-- Values that stand for cells wherever they lie. -/
theorem Creps.move {b : Nat} : ∀ {off : Nat} {xs : List T}, Creps w S b off xs → ∃ us : List Value, us.length = xs.length ∧ Holds w b off us ∧ (∀ u ∈ us, Single u) ∧
    ∀ (w' : World) (b' off' : Nat), Same S w w' → Holds w' b' off' us → Creps w' S b' off' xs
  | off, [], _ => ⟨[], rfl, fun j u h => by simp at h, by simp, fun _ _ _ _ _ => by unfold Creps; trivial⟩
  | off, x :: xs, h => by
    unfold Creps at h
    obtain ⟨⟨u, h1, h2⟩, h3⟩ := h
    obtain ⟨us, g1, g2, g3, g4⟩ := Creps.move h3
    refine ⟨u :: us, by simp [g1], fun j v hv => ?_, fun v hv => ?_, fun w' b' off' hs hh => ?_⟩
    · cases j with
      | zero => simp at hv; subst hv; exact h1
      | succ j =>
        have := g2 j v (by simpa using hv)
        rw [show off + (j + 1) = off + 1 + j by omega]; exact this
    · rcases List.mem_cons.1 hv with rfl | hv
      · exact Trep_single h2
      · exact g3 v hv
    · unfold Creps
      refine ⟨⟨u, hh 0 u rfl, Trep.keep hs (fun _ hb => hb) x u h2⟩, g4 w' b' (off' + 1) hs fun j v hv => ?_⟩
      have := hh (j + 1) v (by simpa using hv)
      rw [show off' + 1 + j = off' + (j + 1) by omega]; exact this

theorem Holds.split {w : World} {b off : Nat} {us vs : List Value} (h : Holds w b off (us ++ vs)) : Holds w b off us ∧ Holds w b (off + us.length) vs := by
  constructor
  · intro j u hu
    exact h j u (by rw [List.getElem?_append_left (List.getElem?_eq_some_iff.1 hu).1]; exact hu)
  · intro j u hu
    have := h (us.length + j) u (by rw [List.getElem?_append_right (by omega)]; simpa using hu)
    rw [show off + us.length + j = off + (us.length + j) by omega]; exact this

theorem Holds.join {w : World} {b off : Nat} {us vs : List Value} (h : Holds w b off us) (k : Holds w b (off + us.length) vs) : Holds w b off (us ++ vs) := by
  intro j u hu
  by_cases hj : j < us.length
  · exact h j u (by rwa [List.getElem?_append_left hj] at hu)
  · rw [List.getElem?_append_right (by omega)] at hu
    have := k (j - us.length) u hu
    rw [show off + us.length + (j - us.length) = off + j by omega] at this
    exact this

theorem Ereps.move {b : Nat} : ∀ {off sz : Nat} {es : List (List T)}, Ereps w S b off sz es → ∃ us : List Value, us.length = es.length * sz ∧ Holds w b off us ∧ (∀ u ∈ us, Single u) ∧
    ∀ (w' : World) (b' off' : Nat), Same S w w' → Holds w' b' off' us → Ereps w' S b' off' sz es
  | off, sz, [], _ => ⟨[], by simp, fun j u h => by simp at h, by simp, fun _ _ _ _ _ => by unfold Ereps; trivial⟩
  | off, sz, e :: es, h => by
    unfold Ereps at h
    obtain ⟨h0, h1, h2⟩ := h
    obtain ⟨us, g1, g2, g3, g4⟩ := h1.move
    obtain ⟨vs, k1, k2, k3, k4⟩ := Ereps.move h2
    have hl : us.length = sz := by rw [g1, h0]
    refine ⟨us ++ vs, by simp [hl, k1, Nat.succ_mul]; omega, g2.join (by rw [hl]; exact k2), fun u hu => ?_, fun w' b' off' hs hh => ?_⟩
    · rcases List.mem_append.1 hu with hu | hu
      · exact g3 u hu
      · exact k3 u hu
    · obtain ⟨q1, q2⟩ := hh.split
      unfold Ereps
      exact ⟨h0, g4 w' b' off' hs q1, k4 w' b' (off' + sz) hs (by rw [← hl]; exact q2)⟩

/-- An object goes. -/
theorem RelAt.drop (h : RelAt w0 S0 own N m cap S st a w) (id : Id) : RelAt w0 S0 own N m cap S (st.setOb id none) a w := by
  have ht : Turn (fun _ => False) m m cap cap st.ob (st.setOb id none).ob := by
    refine ⟨fun i _ => ?_, fun i _ => ⟨rfl, rfl⟩⟩
    by_cases e : i = id
    · subst e; simp only [St.setOb, if_true]; cases st.ob i with
      | none => trivial
      | some o => cases o <;> trivial
    · simp only [St.setOb, if_neg e]; exact Ob.leads_refl _
  have hl : ∀ i o, (st.setOb id none).ob i = some o → st.ob i = some o := fun i o hi => by
    by_cases e : i = id
    · subst e; simp [St.setOb] at hi
    · simpa only [St.setOb, if_neg e] using hi
  refine ⟨h.size, h.defers, h.after, h.stab, h.base, h.fresh, fun i o hi => ?_, fun i o hi => h.mine i o (hl i o hi), fun i j hi hj he => ?_, fun t ht' => ?_, h.far⟩
  · exact (h.obs i o (hl i o hi)).keep (Same.refl _ _) (fun _ hb => hb) ht (fun hx => hx) (fun cs _ => AV.frees_false cs) rfl (fun hx => hx)
  · obtain ⟨o1, h1⟩ := Option.ne_none_iff_exists'.1 hi
    obtain ⟨o2, h2⟩ := Option.ne_none_iff_exists'.1 hj
    exact h.inj i j (by rw [hl i o1 h1]; simp) (by rw [hl j o2 h2]; simp) he
  · exact AVrep.keep (Same.refl _ _) (fun _ hb => hb) ht _ _ (AV.free_false _) (h.tm t ht')

/-- A new object in a block that no other has: a new one, or one that has been left. -/
theorem RelAt.newAt {w' : World} (h : RelAt w0 S0 own N m cap S st a w) {id : Id} (hf : st.Free (· = id)) {o : Ob} {g c : Nat} (hg : ∀ i o', st.ob i = some o' → m i ≠ g) (hS : ¬ S g) (hm : w0.heap.size ≤ g ∨ g ∈ own)
    (hk : ∀ k, k < w.heap.size → k ≠ g → w'.heap[k]? = w.heap[k]?) (h1 : w'.os = w.os) (h2 : w'.tape = w.tape) (h3 : w'.output = w.output) (h4 : w.heap.size ≤ w'.heap.size)
    (ho : ObRep w' S (upd m id g) (upd cap id c) (st.setOb id (some o)).ob id o) : RelAt w0 S0 own N (upd m id g) (upd cap id c) S (st.setOb id (some o)) a w' := by
  have hn := hf.none id rfl
  have hsame : Same S w w' := fun b hb => hk b (h.stab b hb) fun e => hS (e ▸ hb)
  have ht : Turn (· = id) m (upd m id g) cap (upd cap id c) st.ob (st.setOb id (some o)).ob :=
    ⟨fun i hi => by simp only [St.setOb, if_neg hi]; exact Ob.leads_refl _, fun i hi => by simp [upd, hi]⟩
  have hlt : ∀ i o', st.ob i = some o' → m i < w.heap.size := fun i o' hi => (h.obs i o' hi).lt
  refine ⟨h.size, h.defers, ⟨h1.trans h.after.os, h2.trans h.after.tape, h3.trans h.after.output, Nat.le_trans h.after.size h4, fun k hkk hno => ?_⟩, fun b hb => Nat.lt_of_lt_of_le (h.stab b hb) h4, h.base, h.fresh, fun i o' hi => ?_, fun i o' hi => ?_, fun i j hi hj he => ?_, fun t ht' => ?_, h.far⟩
  · rw [hk k (Nat.lt_of_lt_of_le hkk h.after.size) fun e => ?_]
    · exact h.after.block k hkk hno
    · rcases hm with hm | hm
      · omega
      · exact hno (e ▸ hm)
  · by_cases e : i = id
    · subst e
      simp only [St.setOb, if_true] at hi
      cases hi
      exact ho
    · simp only [St.setOb, if_neg e] at hi
      exact (h.obs i o' hi).keep hsame (fun _ hb => hb) ht e (fun cs hc => hf.var i cs (by rw [hi, hc])) (hk _ (hlt i o' hi) (hg i o' hi)) (fun hx => hx)
  · by_cases e : i = id
    · subst e
      simp only [upd, if_true]
      exact hm
    · simp only [St.setOb, if_neg e] at hi
      simp only [upd, if_neg e]
      exact h.mine i o' hi
  · by_cases e : i = id <;> by_cases e' : j = id
    · rw [e, e']
    · subst e
      simp only [upd, if_true, if_neg e'] at he
      simp only [St.setOb, if_neg e'] at hj
      obtain ⟨o', ho'⟩ := Option.ne_none_iff_exists'.1 hj
      exact absurd he.symm (hg j o' ho')
    · subst e'
      simp only [upd, if_true, if_neg e] at he
      simp only [St.setOb, if_neg e] at hi
      obtain ⟨o', ho'⟩ := Option.ne_none_iff_exists'.1 hi
      exact absurd he (hg i o' ho')
    · simp only [upd, if_neg e, if_neg e'] at he
      simp only [St.setOb, if_neg e] at hi
      simp only [St.setOb, if_neg e'] at hj
      exact h.inj i j hi hj he
  · exact AVrep.keep hsame (fun _ hb => hb) ht _ _ (hf.tm t) (h.tm t ht')

/-- The value of a whole own row. -/
theorem AVrep_row {ob : Id → Option Ob} {id : Id} {sz : Nat} {es : List (List T)} (ho : ob id = some (.row sz es)) (hn : es.length ≤ cap id) (hc : cap id ≤ maxLen) :
    AVrep w S m cap ob (.row id sz 0 es.length) (.slice (some ⟨m id, 0, none⟩) es.length (cap id)) := by
  unfold AVrep
  refine ⟨_, _, rfl, hn, hc, fun _ => ⟨_, rfl⟩, (fun cs hcs => by rw [ho] at hcs; cases hcs), fun sz' es' hes => ?_⟩
  have e : sz' = sz ∧ es' = es := by
    rcases hes with hes | hes <;> rw [ho] at hes <;> cases hes <;> exact ⟨rfl, rfl⟩
  obtain ⟨rfl, rfl⟩ := e
  exact ⟨rfl, by omega, by omega, fun _ => by simp, fun _ => ⟨rfl, rfl⟩⟩

end Cal
