/- A calculus of our own, eleventh part: frozen values, slice literals, stores. No program is named here. -/
import Derived.Test.YthaebckdhcnkfaaCalK
set_option linter.unusedSimpArgs false
set_option linter.unusedVariables false
namespace Cal
open Go Go.RowKit

variable {P : Program} {w0 w : World} {S0 S : Nat → Prop} {own : List Nat} {N : Nat} {m cap : Id → Nat} {st : St} {a : Act}

/-- s' has what s has, but that some rows are frozen. -/
def Froze (s s' : St) : Prop := s'.tm = s.tm ∧ ∀ id, s'.ob id = s.ob id ∨ ∃ sz es, (s.ob id = some (.row sz es) ∨ s.ob id = some (.frz sz es)) ∧ s'.ob id = some (.frz sz es)

theorem Froze.refl (s : St) : Froze s s := ⟨rfl, fun _ => .inl rfl⟩
theorem Froze.look {s s' : St} (h : Froze s s') {id : Id} {sz : Nat} {es : List (List T)} (ho : s.ob id = some (.row sz es) ∨ s.ob id = some (.frz sz es)) : s'.ob id = some (.row sz es) ∨ s'.ob id = some (.frz sz es) := by
  rcases h.2 id with e | ⟨sz', es', e1, e2⟩
  · rw [e]; exact ho
  · right
    rcases ho with ho | ho <;> rcases e1 with e1 | e1 <;> rw [ho] at e1 <;> cases e1 <;> exact e2

theorem toT_rep (h : RelAt w0 S0 own N m cap S st a w) {v : AV} {x : T} {u : Value} (hx : st.toT v = some x) (hu : AVrep w S m cap st.ob v u) (hS : ∀ id sz i n, v = .row id sz i n → S (m id)) : Trep w S x u := by
  unfold St.toT at hx
  split at hx
  · cases hx; unfold AVrep at hu; exact hu
  · rename_i id sz i n
    have key : ∀ sz' es, (st.ob id = some (.row sz' es) ∨ st.ob id = some (.frz sz' es)) → Trep w S (.sl (window es i n)) u := by
      intro sz' es ho
      have hrow : OwnRow w S (m id) sz' es (cap id) := by
        rcases ho with ho | ho
        · exact (h.obs id _ ho).1
        · exact (h.obs id _ ho).1
      unfold AVrep at hu
      obtain ⟨A, c, h1, h2, h3, h4, _, h5⟩ := hu
      obtain ⟨rfl, g2, g3, g4, g5⟩ := h5 sz' es ho
      unfold Trep
      refine ⟨A, n, c, h1, ?_, h2, h3, fun hn => ?_⟩
      · unfold window; rw [List.length_take, List.length_drop]; omega
      · refine ⟨m id, i * sz', sz', g4 (by omega), hS id _ i n rfl, ?_⟩
        unfold window
        have := (hrow.2.2.2.drop i).take n
        rw [Nat.zero_add] at this
        exact this
    split at hx
    · rename_i ho; cases hx; exact key _ _ (.inl ho)
    · rename_i ho; cases hx; exact key _ _ (.inr ho)
    · cases hx
  · cases hx

theorem eff_append (s : St) : ∀ (f g : Eff), s.eff (f ++ g) = (s.eff f).eff g
  | [], g => rfl
  | (id, o) :: f, g => by simp only [List.cons_append]; exact eff_append (s.setOb id o) f g

/-- Freezing what a list of values names. -/
theorem freeze_all (h : RelAt w0 S0 own N m cap S st a w) {s0 : St} : ∀ (vs : List AV), Froze s0 st → (∀ v ∈ vs, (s0.toT v).isSome) →
    ∃ S', RelAt w0 S0 own N m cap S' (st.eff (s0.frzEffs vs)) a w ∧ (∀ b, S b → S' b) ∧ Froze s0 (st.eff (s0.frzEffs vs)) ∧ ∀ id sz i n, AV.row id sz i n ∈ vs → S' (m id) := by
  intro vs
  induction vs generalizing st S with
  | nil => exact fun hz _ => ⟨S, h, fun _ hb => hb, hz, fun _ _ _ _ hm => by simp at hm⟩
  | cons v vs ih =>
    intro hz hv
    unfold St.frzEffs
    rw [eff_append]
    have hv0 := hv v (by simp)
    have rest := fun (st1 : St) (S1 : Nat → Prop) (h1 : RelAt w0 S0 own N m cap S1 st1 a w) (hz1 : Froze s0 st1) => ih h1 hz1 fun x hx => hv x (by simp [hx])
    have same : s0.frzEff v = [] → (∀ id sz i n, v ≠ .row id sz i n) → ∃ S', RelAt w0 S0 own N m cap S' ((st.eff (s0.frzEff v)).eff (s0.frzEffs vs)) a w ∧ (∀ b, S b → S' b) ∧ Froze s0 ((st.eff (s0.frzEff v)).eff (s0.frzEffs vs)) ∧ ∀ id sz i n, AV.row id sz i n ∈ v :: vs → S' (m id) := by
      intro e0 hne
      rw [e0]
      obtain ⟨S', g1, g2, g3, g4⟩ := rest st S h hz
      refine ⟨S', g1, g2, g3, fun id sz i n hm => ?_⟩
      rcases List.mem_cons.1 hm with e | hm
      · exact absurd e.symm (hne id sz i n)
      · exact g4 id sz i n hm
    cases v with
    | row id sz i n =>
      have key : ∀ sz' es, (s0.ob id = some (.row sz' es) ∨ s0.ob id = some (.frz sz' es)) → s0.frzEff (.row id sz i n) = [(id, some (.frz sz' es))] → ∃ S', RelAt w0 S0 own N m cap S' ((st.eff (s0.frzEff (.row id sz i n))).eff (s0.frzEffs vs)) a w ∧ (∀ b, S b → S' b) ∧
          Froze s0 ((st.eff (s0.frzEff (.row id sz i n))).eff (s0.frzEffs vs)) ∧ ∀ id' sz'' i' n', AV.row id' sz'' i' n' ∈ AV.row id sz i n :: vs → S' (m id') := by
        intro sz' es ho e0
        rw [e0]
        have h1 := h.freeze (hz.look ho)
        have hz1 : Froze s0 (st.eff [(id, some (.frz sz' es))]) := by
          refine ⟨hz.1, fun j => ?_⟩
          by_cases e : j = id
          · subst e
            right
            exact ⟨sz', es, ho, by simp [St.eff, St.setOb]⟩
          · rcases hz.2 j with e1 | e1
            · left; simp [St.eff, St.setOb, e, e1]
            · right; simpa [St.eff, St.setOb, e] using e1
        obtain ⟨S', g1, g2, g3, g4⟩ := rest _ _ h1 hz1
        refine ⟨S', g1, fun b hb => g2 b (.inl hb), g3, fun id' sz'' i' n' hm => ?_⟩
        rcases List.mem_cons.1 hm with e | hm
        · cases e; exact g2 _ (.inr rfl)
        · exact g4 id' sz'' i' n' hm
      cases ho : s0.ob id with
      | none => simp [St.toT, ho] at hv0
      | some o =>
        cases o with
        | var cs => simp [St.toT, ho] at hv0
        | row sz' es => exact key sz' es (.inl ho) (by simp [St.frzEff, ho])
        | frz sz' es =>
          have e0 : s0.frzEff (.row id sz i n) = [] := by simp [St.frzEff, ho]
          rw [e0]
          obtain ⟨S', g1, g2, g3, g4⟩ := rest st S h hz
          refine ⟨S', g1, g2, g3, fun id' sz'' i' n' hm => ?_⟩
          rcases List.mem_cons.1 hm with e | hm
          · cases e
            have hst : st.ob id = some (.frz sz' es) := by
              rcases hz.2 id with e1 | ⟨sz1, es1, e1, e2⟩
              · rw [e1, ho]
              · rw [ho] at e1
                rcases e1 with e1 | e1 <;> cases e1
                exact e2
            exact g2 _ (h.obs id _ hst).2
          · exact g4 id' sz'' i' n' hm
    | t x => exact same rfl fun _ _ _ _ e => by cases e
    | _ => simp [St.toT] at hv0

theorem toTs_some {s : St} : ∀ {vs : List AV} {xs : List T}, s.toTs vs = some xs → xs.length = vs.length ∧ (∀ v ∈ vs, (s.toT v).isSome) ∧ ∀ (j : Nat) (v : AV), vs[j]? = some v → ∃ x, xs[j]? = some x ∧ s.toT v = some x
  | [], xs, h => by
    unfold St.toTs at h
    cases h
    exact ⟨rfl, by simp, by simp⟩
  | v :: vs, xs, h => by
    unfold St.toTs at h
    split at h
    · rename_i x xs' h1 h2
      cases h
      obtain ⟨g1, g2, g3⟩ := toTs_some h2
      refine ⟨by simp [g1], fun y hy => ?_, fun j y hy => ?_⟩
      · rcases List.mem_cons.1 hy with rfl | hy
        · simp [h1]
        · exact g2 y hy
      · cases j with
        | zero => simp at hy; subst hy; exact ⟨x, rfl, h1⟩
        | succ j => exact g3 j y (by simpa using hy)
    · cases h

/-- Frozen, the values of a list stand for pure cells. -/
theorem toTs_rep (h : RelAt w0 S0 own N m cap S st a w) {s0 : St} (hz : Froze s0 st) : ∀ {vs : List AV} {us : List Value} {xs : List T}, s0.toTs vs = some xs → AVreps w S m cap st.ob vs us →
    (∀ id sz i n, AV.row id sz i n ∈ vs → S (m id)) → Treps w S xs us
  | [], us, xs, hx, hu, _ => by
    unfold St.toTs at hx
    cases hx
    unfold AVreps at hu
    subst hu
    unfold Treps; trivial
  | v :: vs, us, xs, hx, hu, hS => by
    unfold St.toTs at hx
    split at hx
    · rename_i x xs' h1 h2
      cases hx
      unfold AVreps at hu
      obtain ⟨u, us', rfl, g1, g2⟩ := hu
      unfold Treps
      refine ⟨?_, toTs_rep h hz h2 g2 fun id sz i n hm => hS id sz i n (by simp [hm])⟩
      refine toT_rep h ?_ g1 fun id sz i n e => hS id sz i n (by simp [e])
      unfold St.toT at h1 ⊢
      cases v with
      | t y => exact h1
      | row id sz i n =>
        dsimp only at h1 ⊢
        cases ho : s0.ob id with
        | none => rw [ho] at h1; cases h1
        | some o =>
          rw [ho] at h1
          cases o with
          | var cs => cases h1
          | row sz' es =>
            cases h1
            rcases hz.look (.inl ho) with e | e <;> rw [e]
          | frz sz' es =>
            cases h1
            rcases hz.look (.inr ho) with e | e <;> rw [e]
      | _ => cases h1
    · cases hx

end Cal
