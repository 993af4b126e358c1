/- A calculus of our own, fourth part: how a pure state stands to a frame and a world; that this is kept. No program is named here. -/
import Derived.Test.YthaebckdhcnkfaaCalC
namespace Cal
open Go Go.RowKit

mutual
/-- How an abstract value stands to a value; m: the objects' blocks, cap: the rows' capacities. -/
def AVrep (w : World) (S : Nat → Prop) (m cap : Id → Nat) (ob : Id → Option Ob) : AV → Value → Prop
  | .t x, u => Trep w S x u
  | .row id sz i n, u => ∃ A c, u = .slice A n c ∧ n ≤ c ∧ c ≤ maxLen ∧ (0 < n → ∃ a, A = some a) ∧ (∀ cs, ob id ≠ some (.var cs)) ∧
      ∀ sz' es, (ob id = some (.row sz' es) ∨ ob id = some (.frz sz' es)) → sz' = sz ∧ i + n ≤ es.length ∧ i + c ≤ cap id ∧ (0 < c → A = some ⟨m id, i * sz, none⟩) ∧ (i = 0 → A = some ⟨m id, 0, none⟩ ∧ c = cap id)
  | .ptr id i j, u => ∃ a, u = .pointer (some a) ∧ (∀ cs, ob id = some (.var cs) → i = 0 → a = ⟨m id, j, none⟩) ∧
      (∀ sz es, (ob id = some (.row sz es) ∨ ob id = some (.frz sz es)) → i < es.length → a = ⟨m id, i * sz + j, none⟩)
  | .roptr cs, u => ∃ b off, u = .pointer (some ⟨b, off, none⟩) ∧ S b ∧ Creps w S b off cs
  | .agg cs, u => ∃ us : List Value, u = .agg us.toArray ∧ AVreps w S m cap ob cs us
  | .tup cs, u => ∃ us : List Value, u = .tuple us.toArray ∧ AVreps w S m cap ob cs us
  | .bad, _ => True
def AVreps (w : World) (S : Nat → Prop) (m cap : Id → Nat) (ob : Id → Option Ob) : List AV → List Value → Prop
  | [], us => us = []
  | v :: vs, us => ∃ u us', us = u :: us' ∧ AVrep w S m cap ob v u ∧ AVreps w S m cap ob vs us'
end

mutual
/-- An abstract value names no object of this sort. -/
def AV.free (p : Id → Prop) : AV → Prop
  | .row id _ _ _ => ¬ p id
  | .ptr id _ _ => ¬ p id
  | .agg cs => AV.frees p cs
  | .tup cs => AV.frees p cs
  | _ => True
def AV.frees (p : Id → Prop) : List AV → Prop
  | [] => True
  | v :: vs => v.free p ∧ AV.frees p vs
end

/-- What an object may turn into, seen by those who name it: nothing, itself with other contents of the same shape, a frozen row. -/
def Ob.leads (o o' : Option Ob) : Prop :=
  match o, o' with
  | _, none => True
  | some (.var cs), some (.var cs') => cs.length = cs'.length
  | some (.row sz es), some (.row sz' es') => sz = sz' ∧ es.length = es'.length
  | some (.row sz es), some (.frz sz' es') => sz = sz' ∧ es.length = es'.length
  | some (.frz sz es), some (.frz sz' es') => sz = sz' ∧ es.length = es'.length
  | _, _ => False

/-- Objects that p has may be made anew; the others lead on. -/
structure Turn (p : Id → Prop) (m m' cap cap' : Id → Nat) (ob ob' : Id → Option Ob) : Prop where
  lead : ∀ id, ¬ p id → Ob.leads (ob id) (ob' id)
  blk : ∀ id, ¬ p id → m' id = m id ∧ cap' id = cap id

mutual
theorem AVrep.keep {w w' : World} {S S' : Nat → Prop} {m m' cap cap' : Id → Nat} {ob ob' : Id → Option Ob} {p : Id → Prop} (hw : Same S w w') (hs : ∀ b, S b → S' b) (ht : Turn p m m' cap cap' ob ob') :
    ∀ (v : AV) (u : Value), v.free p → AVrep w S m cap ob v u → AVrep w' S' m' cap' ob' v u
  | .t x, u, _, h => by unfold AVrep at *; exact Trep.keep hw hs x u h
  | .row id sz0 i n, u, hf, h => by
    unfold AVrep at *
    unfold AV.free at hf
    obtain ⟨A, c, h1, h2, h3, h4, hv, h5⟩ := h
    have hl := ht.lead id hf
    obtain ⟨hm, hc⟩ := ht.blk id hf
    refine ⟨A, c, h1, h2, h3, h4, fun cs hcs => ?_, fun sz es hes => ?_⟩
    · rw [hcs] at hl
      cases hob : ob id with
      | none => rw [hob] at hl; exact hl.elim
      | some o =>
        rw [hob] at hl
        cases o with
        | var cs' => exact hv cs' hob
        | row sz' es' => exact hl.elim
        | frz sz' es' => exact hl.elim
    rw [hm, hc]
    cases hob : ob id with
    | none => rw [hob] at hl; rcases hes with hes | hes <;> rw [hes] at hl <;> exact hl.elim
    | some o =>
      rw [hob] at hl
      cases o with
      | var cs => rcases hes with hes | hes <;> rw [hes] at hl <;> exact hl.elim
      | row sz' es' =>
        have := h5 sz' es' (.inl hob)
        rcases hes with hes | hes <;> rw [hes] at hl <;> obtain ⟨rfl, hl2⟩ := hl <;> rw [hl2] at this <;> exact this
      | frz sz' es' =>
        have := h5 sz' es' (.inr hob)
        rcases hes with hes | hes <;> rw [hes] at hl
        · exact hl.elim
        · obtain ⟨rfl, hl2⟩ := hl
          rw [hl2] at this; exact this
  | .ptr id i j, u, hf, h => by
    unfold AVrep at *
    unfold AV.free at hf
    obtain ⟨a, h1, h2, h3⟩ := h
    have hl := ht.lead id hf
    obtain ⟨hm, _⟩ := ht.blk id hf
    refine ⟨a, h1, fun cs hcs hi => ?_, fun sz es hes hi => ?_⟩
    · rw [hm]
      cases hob : ob id with
      | none => rw [hob, hcs] at hl; exact hl.elim
      | some o =>
        rw [hob, hcs] at hl
        cases o with
        | var cs' => exact h2 cs' hob hi
        | row sz' es' => exact hl.elim
        | frz sz' es' => exact hl.elim
    · rw [hm]
      cases hob : ob id with
      | none => rw [hob] at hl; rcases hes with hes | hes <;> rw [hes] at hl <;> exact hl.elim
      | some o =>
        rw [hob] at hl
        cases o with
        | var cs => rcases hes with hes | hes <;> rw [hes] at hl <;> exact hl.elim
        | row sz' es' =>
          rcases hes with hes | hes <;> rw [hes] at hl <;> obtain ⟨rfl, hl2⟩ := hl <;> exact h3 _ es' (.inl hob) (by omega)
        | frz sz' es' =>
          rcases hes with hes | hes <;> rw [hes] at hl
          · exact hl.elim
          · obtain ⟨rfl, hl2⟩ := hl
            exact h3 _ es' (.inr hob) (by omega)
  | .roptr cs, u, _, h => by
    unfold AVrep at *
    obtain ⟨b, off, h1, h2, h3⟩ := h
    exact ⟨b, off, h1, hs b h2, Creps.keep hw hs (hw b h2) off cs h3⟩
  | .agg cs, u, hf, h => by
    unfold AVrep at *
    unfold AV.free at hf
    obtain ⟨us, h1, h2⟩ := h
    exact ⟨us, h1, AVreps.keep hw hs ht cs us hf h2⟩
  | .tup cs, u, hf, h => by
    unfold AVrep at *
    unfold AV.free at hf
    obtain ⟨us, h1, h2⟩ := h
    exact ⟨us, h1, AVreps.keep hw hs ht cs us hf h2⟩
  | .bad, u, _, _ => by unfold AVrep; trivial
theorem AVreps.keep {w w' : World} {S S' : Nat → Prop} {m m' cap cap' : Id → Nat} {ob ob' : Id → Option Ob} {p : Id → Prop} (hw : Same S w w') (hs : ∀ b, S b → S' b) (ht : Turn p m m' cap cap' ob ob') :
    ∀ (vs : List AV) (us : List Value), AV.frees p vs → AVreps w S m cap ob vs us → AVreps w' S' m' cap' ob' vs us
  | [], us, _, h => by unfold AVreps at *; exact h
  | v :: vs, us, hf, h => by
    unfold AVreps at *
    unfold AV.frees at hf
    obtain ⟨u, us', h1, h2, h3⟩ := h
    exact ⟨u, us', h1, AVrep.keep hw hs ht v u hf.1 h2, AVreps.keep hw hs ht vs us' hf.2 h3⟩
end

/-- An object lies in its block. -/
def ObRep (w : World) (S : Nat → Prop) (m cap : Id → Nat) (ob : Id → Option Ob) (id : Id) : Ob → Prop
  | .var cs => (∃ arr ty, w.heap[m id]? = some (.cells arr ty (0, 0)) ∧ AVreps w S m cap ob cs arr.toList) ∧ ¬ S (m id)
  | .row sz es => OwnRow w S (m id) sz es (cap id) ∧ ¬ S (m id)
  | .frz sz es => OwnRow w S (m id) sz es (cap id) ∧ S (m id)

/-- How a pure state stands to a frame and a world. w0, S0: when the call began; own: the blocks of arguments that are written. -/
structure RelAt (w0 : World) (S0 : Nat → Prop) (own : List Nat) (N : Nat) (m cap : Id → Nat) (S : Nat → Prop) (st : St) (a : Act) (w : World) : Prop where
  size : a.tmps.size = N
  defers : a.defers = []
  after : After own w0 w
  stab : ∀ b, S b → b < w.heap.size
  base : ∀ b, S0 b → S b
  fresh : ∀ b, S b → S0 b ∨ w0.heap.size ≤ b ∨ b ∈ own
  obs : ∀ id o, st.ob id = some o → ObRep w S m cap st.ob id o
  mine : ∀ id o, st.ob id = some o → w0.heap.size ≤ m id ∨ m id ∈ own
  inj : ∀ id id', st.ob id ≠ none → st.ob id' ≠ none → m id = m id' → id = id'
  tm : ∀ t, t < N → AVrep w S m cap st.ob (st.tm t) (a.tmps.getD t undef)
  far : ∀ t, N ≤ t → st.tm t = .bad

/-- H: the blocks of the arguments that are written. -/
def Rel (w0 : World) (S0 : Nat → Prop) (own : List Nat) (H : Nat → Nat × Nat) (N : Nat) (st : St) (a : Act) (w : World) : Prop :=
  ∃ m cap S, RelAt w0 S0 own N m cap S st a w ∧ ∀ k, m (base + k, 0) = (H k).1 ∧ cap (base + k, 0) = (H k).2

end Cal
