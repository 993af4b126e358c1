/- A calculus of our own, twelfth part: stores: the model does what the evaluator says. No program is named here. -/
import Derived.Test.YthaebckdhcnkfaaCalL
set_option linter.unusedSimpArgs false
set_option linter.unusedVariables false
namespace Cal
open Go Go.RowKit

variable {P : Program} {w0 w : World} {S0 S : Nat → Prop} {own : List Nat} {N : Nat} {m cap : Id → Nat} {st : St} {a : Act}

theorem putAll_get : ∀ (us : List Value) (arr : Array Value) (off k : Nat), off + us.length ≤ arr.size → (putAll arr off us)[k]? = if off ≤ k ∧ k < off + us.length then us[k - off]? else arr[k]?
  | [], arr, off, k, _ => by
    unfold putAll
    rw [if_neg (by simp)]
  | u :: us, arr, off, k, h => by
    simp only [List.length_cons] at h ⊢
    unfold putAll
    rw [putAll_get us _ (off + 1) k (by simp; omega)]
    by_cases h1 : k = off
    · subst h1
      rw [if_neg (by omega), if_pos (by omega)]
      simp [Array.getElem?_setIfInBounds, show k < arr.size by omega]
    · by_cases h2 : off + 1 ≤ k ∧ k < off + 1 + us.length
      · rw [if_pos h2, if_pos (by omega)]
        rw [show k - off = (k - (off + 1)) + 1 by omega]
        simp
      · rw [if_neg h2, if_neg (by omega), Array.getElem?_setIfInBounds_ne (fun e => h1 e.symm)]

theorem Creps_iff {b : Nat} : ∀ {off : Nat} {xs : List T}, Creps w S b off xs ↔ ∀ (j : Nat) (x : T), xs[j]? = some x → ∃ u, w.cell? ⟨b, off + j, none⟩ = some u ∧ Trep w S x u
  | off, [] => by simp [Creps]
  | off, x :: xs => by
    unfold Creps
    rw [Creps_iff (off := off + 1) (xs := xs)]
    constructor
    · rintro ⟨h1, h2⟩ j y hy
      cases j with
      | zero => simp at hy; subst hy; exact h1
      | succ j =>
        rw [show off + (j + 1) = off + 1 + j by omega]
        exact h2 j y (by simpa using hy)
    · intro h
      refine ⟨h 0 x rfl, fun j y hy => ?_⟩
      rw [show off + 1 + j = off + (j + 1) by omega]
      exact h (j + 1) y (by simpa using hy)

theorem Ereps_iff {b : Nat} : ∀ {off sz : Nat} {es : List (List T)}, Ereps w S b off sz es ↔ ∀ (i : Nat) (e : List T), es[i]? = some e → e.length = sz ∧ Creps w S b (off + i * sz) e
  | off, sz, [] => by simp [Ereps]
  | off, sz, e :: es => by
    unfold Ereps
    rw [Ereps_iff (off := off + sz) (es := es)]
    constructor
    · rintro ⟨h1, h2, h3⟩ i f hf
      cases i with
      | zero => simp at hf; subst hf; exact ⟨h1, by simpa using h2⟩
      | succ i =>
        rw [show off + (i + 1) * sz = off + sz + i * sz by rw [Nat.succ_mul]; omega]
        exact h3 i f (by simpa using hf)
    · intro h
      have h0 := h 0 e rfl
      refine ⟨h0.1, by simpa using h0.2, fun i f hf => ?_⟩
      rw [show off + sz + i * sz = off + (i + 1) * sz by rw [Nat.succ_mul]; omega]
      exact h (i + 1) f (by simpa using hf)

theorem AVreps_iff {ob : Id → Option Ob} : ∀ {vs : List AV} {us : List Value}, AVreps w S m cap ob vs us ↔ us.length = vs.length ∧ ∀ (j : Nat) (v : AV) (u : Value), vs[j]? = some v → us[j]? = some u → AVrep w S m cap ob v u
  | [], us => by
    unfold AVreps
    constructor
    · rintro rfl; simp
    · rintro ⟨h, _⟩; exact List.length_eq_zero_iff.1 h
  | v :: vs, us => by
    unfold AVreps
    constructor
    · rintro ⟨u, us', rfl, h1, h2⟩
      obtain ⟨g1, g2⟩ := AVreps_iff.1 h2
      refine ⟨by simp [g1], fun j x y hx hy => ?_⟩
      cases j with
      | zero => simp at hx hy; subst hx; subst hy; exact h1
      | succ j => exact g2 j x y (by simpa using hx) (by simpa using hy)
    · rintro ⟨h1, h2⟩
      cases us with
      | nil => simp at h1
      | cons u us' =>
        exact ⟨u, us', rfl, h2 0 v u rfl rfl, AVreps_iff.2 ⟨by simpa using h1, fun j x y hx hy => h2 (j + 1) x y (by simpa using hx) (by simpa using hy)⟩⟩

theorem Treps_iff : ∀ {xs : List T} {us : List Value}, Treps w S xs us ↔ us.length = xs.length ∧ ∀ (j : Nat) (x : T) (u : Value), xs[j]? = some x → us[j]? = some u → Trep w S x u
  | [], [] => by simp [Treps]
  | [], u :: us => by simp [Treps]
  | x :: xs, [] => by simp [Treps]
  | x :: xs, u :: us => by
    unfold Treps
    rw [Treps_iff (xs := xs) (us := us)]
    constructor
    · rintro ⟨h1, h2, h3⟩
      refine ⟨by simp [h2], fun j y v hy hv => ?_⟩
      cases j with
      | zero => simp at hy hv; subst hy; subst hv; exact h1
      | succ j => exact h3 j y v (by simpa using hy) (by simpa using hv)
    · rintro ⟨h1, h2⟩
      exact ⟨h2 0 x u rfl rfl, by simpa using h1, fun j y v hy hv => h2 (j + 1) y v (by simpa using hy) (by simpa using hv)⟩

theorem over_length {cs ns : List AV} {off : Nat} (h : off + ns.length ≤ cs.length) : (over cs off ns).length = cs.length := by
  unfold over; simp; omega
theorem overT_length {cs ns : List T} {off : Nat} (h : off + ns.length ≤ cs.length) : (overT cs off ns).length = cs.length := by
  unfold overT; simp; omega
theorem over_get {cs ns : List AV} {off k : Nat} (h : off + ns.length ≤ cs.length) : (over cs off ns)[k]? = if off ≤ k ∧ k < off + ns.length then ns[k - off]? else cs[k]? := by
  unfold over
  rw [List.append_assoc]
  by_cases h1 : k < off
  · rw [if_neg (by omega), List.getElem?_append_left (by simp; omega), List.getElem?_take, if_pos h1]
  · rw [List.getElem?_append_right (by simp; omega)]
    have e : (List.take off cs).length = off := by simp; omega
    rw [e]
    by_cases h2 : k < off + ns.length
    · rw [if_pos ⟨by omega, h2⟩, List.getElem?_append_left (by omega)]
    · rw [if_neg (by omega), List.getElem?_append_right (by omega), List.getElem?_drop]
      congr 1; omega
theorem overT_get {cs ns : List T} {off k : Nat} (h : off + ns.length ≤ cs.length) : (overT cs off ns)[k]? = if off ≤ k ∧ k < off + ns.length then ns[k - off]? else cs[k]? := by
  unfold overT
  rw [List.append_assoc]
  by_cases h1 : k < off
  · rw [if_neg (by omega), List.getElem?_append_left (by simp; omega), List.getElem?_take, if_pos h1]
  · rw [List.getElem?_append_right (by simp; omega)]
    have e : (List.take off cs).length = off := by simp; omega
    rw [e]
    by_cases h2 : k < off + ns.length
    · rw [if_pos ⟨by omega, h2⟩, List.getElem?_append_left (by omega)]
    · rw [if_neg (by omega), List.getElem?_append_right (by omega), List.getElem?_drop]
      congr 1; omega

/-- An object whose block has been written. -/
theorem RelAt.wrote {w' : World} (h : RelAt w0 S0 own N m cap S st a w) {id : Id} {o o' : Ob} (ho : st.ob id = some o) (hS : ¬ S (m id)) (hl : Ob.leads (some o) (some o')) (hk : ∀ k, k ≠ m id → w'.heap[k]? = w.heap[k]?)
    (h1 : w'.os = w.os) (h2 : w'.tape = w.tape) (h3 : w'.output = w.output) (h4 : w'.heap.size = w.heap.size) (hr : ObRep w' S m cap (st.setOb id (some o')).ob id o') :
    RelAt w0 S0 own N m cap S (st.setOb id (some o')) a w' := by
  have hsame : Same S w w' := fun b hb => hk b fun e => hS (e ▸ hb)
  have ht : Turn (fun _ => False) m m cap cap st.ob (st.setOb id (some o')).ob := by
    refine ⟨fun i _ => ?_, fun i _ => ⟨rfl, rfl⟩⟩
    by_cases e : i = id
    · subst e; simp only [St.setOb, if_true]; rw [ho]; exact hl
    · simp only [St.setOb, if_neg e]; exact Ob.leads_refl _
  have hlive : ∀ i o1, (st.setOb id (some o')).ob i = some o1 → st.ob i ≠ none := fun i o1 hi => by
    by_cases e : i = id
    · subst e; rw [ho]; simp
    · simp only [St.setOb, if_neg e] at hi; rw [hi]; simp
  refine ⟨h.size, h.defers, ⟨h1.trans h.after.os, h2.trans h.after.tape, h3.trans h.after.output, by rw [h4]; exact h.after.size, fun k hkk hno => ?_⟩, fun b hb => by rw [h4]; exact h.stab b hb, h.base, h.fresh, fun i o1 hi => ?_, fun i o1 hi => ?_, fun i j hi hj he => ?_, fun t ht' => ?_, h.far⟩
  · rw [hk k fun e => ?_]
    · exact h.after.block k hkk hno
    · rcases h.mine id o ho with hm | hm
      · omega
      · exact hno (e ▸ hm)
  · by_cases e : i = id
    · subst e
      simp only [St.setOb, if_true] at hi
      cases hi
      exact hr
    · simp only [St.setOb, if_neg e] at hi
      exact (h.obs i o1 hi).keep hsame (fun _ hb => hb) ht (fun hx => hx) (fun cs _ => AV.frees_false cs) (hk _ fun e' => e (h.inj i id (by rw [hi]; simp) (by rw [ho]; simp) e')) (fun hx => hx)
  · obtain ⟨o2, h2'⟩ := Option.ne_none_iff_exists'.1 (hlive i o1 hi)
    exact h.mine i o2 h2'
  · obtain ⟨o1, h1'⟩ := Option.ne_none_iff_exists'.1 hi
    obtain ⟨o2, h2'⟩ := Option.ne_none_iff_exists'.1 hj
    exact h.inj i j (hlive i o1 h1') (hlive j o2 h2') he
  · exact AVrep.keep hsame (fun _ hb => hb) ht _ _ (AV.free_false _) (h.tm t ht')

end Cal
