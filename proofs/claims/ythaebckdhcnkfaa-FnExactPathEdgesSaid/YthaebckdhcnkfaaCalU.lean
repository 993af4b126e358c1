/- A calculus of our own, twentieth part: what an operation may touch, and of what it depends. No program is named here. -/
import Derived.Test.YthaebckdhcnkfaaCalT
set_option linter.unusedSimpArgs false
set_option linter.unusedVariables false
namespace Cal
open Go Go.RowKit

variable {P : Program} {st st2 : St}

/-! ### what is touched -/

/-- Only these objects are touched. -/
def Eff.at (q : Id → Prop) (f : Eff) : Prop := ∀ e ∈ f, q e.1

theorem Eff.at_nil (q : Id → Prop) : Eff.at q [] := by simp [Eff.at]
theorem Eff.at_append {q : Id → Prop} {f g : Eff} (h : Eff.at q f) (k : Eff.at q g) : Eff.at q (f ++ g) := fun e he => by
  rcases List.mem_append.1 he with he | he
  · exact h e he
  · exact k e he
theorem Eff.at_mono {q q' : Id → Prop} {f : Eff} (h : Eff.at q f) (hq : ∀ id, q id → q' id) : Eff.at q' f := fun e he => hq _ (h e he)
theorem Eff.at_one {q : Id → Prop} {id : Id} {o : Option Ob} (h : q id) : Eff.at q [(id, o)] := by simp [Eff.at, h]

/-- Only frozen rows are put in. -/
def Eff.cold (f : Eff) : Prop := ∀ e ∈ f, ∀ cs, e.2 ≠ some (.var cs)

theorem frzEff_at (v : AV) : Eff.at (fun id => st.ob id ≠ none) (st.frzEff v) ∧ Eff.cold (st.frzEff v) := by
  unfold St.frzEff
  split
  · split
    · rename_i ho
      exact ⟨Eff.at_one (by rw [ho]; simp), by simp [Eff.cold]⟩
    · exact ⟨Eff.at_nil _, by simp [Eff.cold]⟩
  · exact ⟨Eff.at_nil _, by simp [Eff.cold]⟩

theorem frzEffs_at : ∀ vs : List AV, Eff.at (fun id => st.ob id ≠ none) (st.frzEffs vs) ∧ Eff.cold (st.frzEffs vs)
  | [] => ⟨Eff.at_nil _, by simp [Eff.cold, St.frzEffs]⟩
  | v :: vs => by
    obtain ⟨h1, h2⟩ := frzEff_at (st := st) v
    obtain ⟨h3, h4⟩ := frzEffs_at vs
    unfold St.frzEffs
    refine ⟨Eff.at_append h1 h3, fun e he => ?_⟩
    rcases List.mem_append.1 he with he | he
    · exact h2 e he
    · exact h4 e he

theorem litA_at {size : Nat} {ps : List (Nat × Operand)} {k : Nat} {es : List (List T)} {f : Eff} (h : litA st size k ps = some (es, f)) : Eff.at (fun id => st.ob id ≠ none) f ∧ Eff.cold f := by
  obtain ⟨_, h2, _⟩ := litA_inv h
  rw [h2]
  exact frzEffs_at _

/-- What an operation puts into objects names nothing that p has. -/
def Eff.free (p : Id → Prop) (f : Eff) : Prop := ∀ e ∈ f, ∀ cs, e.2 = some (.var cs) → AV.frees p cs
theorem Eff.cold.free {f : Eff} (h : Eff.cold f) (p : Id → Prop) : Eff.free p f := fun e he cs hcs => absurd hcs (h e he cs)
theorem Eff.free_nil (p : Id → Prop) : Eff.free p [] := by simp [Eff.free]
theorem Eff.free_append {p : Id → Prop} {f g : Eff} (h : Eff.free p f) (k : Eff.free p g) : Eff.free p (f ++ g) := fun e he => by
  rcases List.mem_append.1 he with he | he
  · exact h e he
  · exact k e he

theorem frees_append {p : Id → Prop} : ∀ {xs ys : List AV}, AV.frees p xs → AV.frees p ys → AV.frees p (xs ++ ys)
  | [], ys, _, h => h
  | x :: xs, ys, h, k => by
    unfold AV.frees at h
    simp only [List.cons_append]
    unfold AV.frees
    exact ⟨h.1, frees_append h.2 k⟩
theorem frees_take {p : Id → Prop} : ∀ {xs : List AV} (n : Nat), AV.frees p xs → AV.frees p (xs.take n)
  | [], n, _ => by simp [AV.frees]
  | x :: xs, 0, _ => by simp [AV.frees]
  | x :: xs, n + 1, h => by
    unfold AV.frees at h
    simp only [List.take_succ_cons]
    unfold AV.frees
    exact ⟨h.1, frees_take n h.2⟩
theorem frees_drop {p : Id → Prop} : ∀ {xs : List AV} (n : Nat), AV.frees p xs → AV.frees p (xs.drop n)
  | [], n, _ => by simp [AV.frees]
  | x :: xs, 0, h => h
  | x :: xs, n + 1, h => by
    unfold AV.frees at h
    simp only [List.drop_succ_cons]
    exact frees_drop n h.2
theorem frees_get {p : Id → Prop} : ∀ {xs : List AV} {i : Nat} {v : AV}, AV.frees p xs → xs[i]? = some v → v.free p
  | [], i, v, _, h => by simp at h
  | x :: xs, 0, v, h, hv => by
    unfold AV.frees at h
    simp at hv
    subst hv
    exact h.1
  | x :: xs, i + 1, v, h, hv => by
    unfold AV.frees at h
    exact frees_get h.2 (by simpa using hv)
theorem frees_over {p : Id → Prop} {cs ns : List AV} {off : Nat} (h : AV.frees p cs) (k : AV.frees p ns) : AV.frees p (over cs off ns) :=
  frees_append (frees_append (frees_take _ h) k) (frees_drop _ h)
theorem free_asOne {p : Id → Prop} {ag : Bool} {cs : List AV} {v : AV} (h : asOne ag cs = some v) (k : AV.frees p cs) : v.free p := by
  unfold asOne at h
  split at h
  · cases h
    unfold AV.free
    exact k
  · split at h
    · cases h
      unfold AV.frees at k
      exact k.1
    · cases h

theorem free_load {p : Id → Prop} (hf : st.Free p) {ag : Bool} {size : Nat} {x v : AV} (h : loadA st ag size x = some v) : v.free p := by
  unfold loadA at h
  split at h
  · split at h
    · rename_i id i j cs ho
      split at h
      · exact free_asOne h (frees_take _ (frees_drop _ (hf.var _ _ ho)))
      · cases h
    · split at h
      · split at h
        · exact free_asOne h (AV.frees_map_t _ _)
        · cases h
      · cases h
    · split at h
      · split at h
        · exact free_asOne h (AV.frees_map_t _ _)
        · cases h
      · cases h
    · cases h
  · split at h
    · exact free_asOne h (AV.frees_map_t _ _)
    · cases h
  · cases h

theorem free_fill {p : Id → Prop} (hf : st.Free p) {t : TypeId} : ∀ {ps : List (Nat × Operand)} {zero cs : List AV}, AV.frees p zero → fillA P t st zero ps = some cs → AV.frees p cs
  | [], zero, cs, hz, h => by
    unfold fillA at h
    cases h
    exact hz
  | (i, x) :: ps, zero, cs, hz, h => by
    unfold fillA at h
    split at h
    · split at h
      · exact free_fill hf (frees_over hz (AV.cells_free (hf.ev x))) h
      · cases h
    · cases h

/-- Does it write on objects that others have? (a slice literal: see 'muted') -/
def wr : Op → Bool
  | .store .. => true
  | .buildSlice .. => true
  | .call { callee := .builtin .append, .. } => true
  | _ => false

theorem store_at {size : Nat} {x y : AV} {f : Eff} (h : storeA st size x y = some f) : Eff.at (fun id => st.ob id ≠ none) f := by
  unfold storeA at h
  split at h
  · split at h
    · split at h
      · rename_i ho
        split at h
        · cases h; exact Eff.at_one (by rw [ho]; simp)
        · cases h
      · rename_i ho
        split at h
        · split at h
          · cases h; exact Eff.at_append (frzEffs_at _).1 (Eff.at_one (by rw [ho]; simp))
          · cases h
        · cases h
      · cases h
    · cases h
  · cases h

theorem store_free {p : Id → Prop} (hf : st.Free p) {size : Nat} {x y : AV} {f : Eff} (hx : x.free p) (h : storeA st size x y = some f) : Eff.free p f := by
  unfold storeA at h
  split at h
  · split at h
    · split at h
      · rename_i ho
        split at h
        · cases h
          intro e he cs hcs
          simp at he
          subst he
          simp at hcs
          subst hcs
          exact frees_over (hf.var _ _ ho) (AV.cells_free hx)
        · cases h
      · split at h
        · split at h
          · cases h; exact Eff.free_append ((frzEffs_at _).2.free p) (by simp [Eff.free])
          · cases h
        · cases h
      · cases h
    · cases h
  · cases h

theorem append_at {d : Nat} {i : TI} {s : AV} {es : List (List T)} {v : AV} {f : Eff} (h : appendA d st i s es = some (v, f)) : Eff.at (fun id => id = (d, 0) ∨ st.ob id ≠ none) f ∧ (∀ p, Eff.free p f) ∧ ∀ p : Id → Prop, ¬ p (d, 0) → v.free p := by
  unfold appendA at h
  split at h
  · cases h
  split at h
  · split at h
    · by_cases h0 : es.length = 0
      · rw [if_pos h0] at h
        cases h
        exact ⟨Eff.at_nil _, fun p => Eff.free_nil p, fun p hp => by simp [AV.free]⟩
      · rw [if_neg h0] at h
        cases h
        exact ⟨Eff.at_one (.inl rfl), fun p => by simp [Eff.free], fun p hp => by simpa [AV.free] using hp⟩
    · cases h
  · split at h
    · rename_i ho
      split at h
      · cases h
        exact ⟨Eff.at_append (f := [_]) (Eff.at_one (.inr (by rw [ho]; simp))) (Eff.at_one (.inl rfl)), fun p => by simp [Eff.free], fun p hp => by simpa [AV.free] using hp⟩
      · cases h
    · cases h
  · cases h

/-- What an operation gives names only what was named, and its own new objects. -/
structure Mild (st : St) (d : Nat) (op : Op) (v : AV) (f : Eff) : Prop where
  at' : Eff.at (fun id => id = (d, 0) ∨ (wr op = true ∧ st.ob id ≠ none)) f
  free : ∀ p : Id → Prop, st.Free p → ¬ p (d, 0) → v.free p ∧ Eff.free p f

theorem Mild.still {op : Op} {d : Nat} {v : AV} (h : ∀ p : Id → Prop, st.Free p → v.free p) : Mild st d op v [] := ⟨Eff.at_nil _, fun p hp _ => ⟨h p hp, Eff.free_nil p⟩⟩

theorem evOp_mild {d : Nat} {op : Op} {v : AV} {f : Eff} (h : evOp P d st op = some (v, f)) : Mild st d op v f := by
  unfold evOp at h
  split at h
  · cases h; exact .still fun p hp => hp.ev _
  · cases h; exact .still fun p hp => hp.ev _
  · unfold pickA at h
    split at h
    · cases h
      refine .still fun p hp => ?_
      split
      · exact hp.ev _
      · exact hp.ev _
    · cases h
  · rename_i t
    cases hi : tinf P t with
    | none => simp [hi] at h
    | some i =>
      simp only [hi, Option.bind_some] at h
      split at h
      · cases h
        refine ⟨Eff.at_one (.inl rfl), fun p hp hd => ⟨by simpa [AV.free] using hd, fun e he cs hcs => ?_⟩⟩
        simp at he
        subst he
        simp at hcs
        subst hcs
        exact AV.frees_vals _ _
      · cases h
  · split at h
    · cases h
      refine ⟨Eff.at_one (.inl rfl), fun p hp hd => ⟨by simpa [AV.free] using hd, fun e he cs hcs => ?_⟩⟩
      simp at he
      subst he
      simp at hcs
      subst hcs
      exact AV.cells_free (hp.ev _)
    · cases h
  · rename_i t parts
    cases hi : tinf P t with
    | none => simp [hi] at h
    | some i =>
      simp only [hi, Option.bind_some] at h
      split at h
      · cases hc : fillA P t st (i.zero.map fun x => .t (.v x)) parts.toList with
        | none => simp [hc] at h
        | some cs =>
          simp only [hc, Option.map_some, Option.some.injEq, Prod.mk.injEq] at h
          obtain ⟨rfl, rfl⟩ := h
          refine .still fun p hp => ?_
          unfold AV.free
          exact free_fill hp (AV.frees_vals _ _) hc
      · cases h
  · rename_i t len parts
    cases hi : elemOf P t with
    | none => simp [hi] at h
    | some ei =>
      simp only [hi, Option.bind_some] at h
      split at h
      · cases hc : litA st ei.2.size 0 parts.toList with
        | none => simp [hc] at h
        | some r =>
          simp only [hc, Option.map_some, Option.some.injEq, Prod.mk.injEq] at h
          obtain ⟨rfl, rfl⟩ := h
          obtain ⟨g1, g2⟩ := litA_at hc
          exact ⟨Eff.at_append (Eff.at_mono g1 fun id hid => .inr ⟨rfl, hid⟩) (Eff.at_one (.inl rfl)), fun p hp hd => ⟨by simpa [AV.free] using hd, Eff.free_append (g2.free p) (by simp [Eff.free])⟩⟩
      · cases h
  · unfold makeA at h
    split at h
    · split at h
      · cases h
        exact ⟨Eff.at_one (.inl rfl), fun p hp hd => ⟨by simpa [AV.free] using hd, by simp [Eff.free]⟩⟩
      · cases h
    · cases h
  · rename_i t x
    cases hi : tinf P t with
    | none => simp [hi] at h
    | some i =>
      simp only [hi, Option.bind_some] at h
      cases hc : loadA st i.agg i.size (st.ev x) with
      | none => simp [hc] at h
      | some u =>
        simp only [hc, Option.map_some, Option.some.injEq, Prod.mk.injEq] at h
        obtain ⟨rfl, rfl⟩ := h
        exact .still fun p hp => free_load hp hc
  · rename_i t x y
    cases hi : tinf P t with
    | none => simp [hi] at h
    | some i =>
      simp only [hi, Option.bind_some] at h
      cases hc : storeA st i.size (st.ev y) (st.ev x) with
      | none => simp [hc] at h
      | some g =>
        simp only [hc, Option.map_some, Option.some.injEq, Prod.mk.injEq] at h
        obtain ⟨rfl, rfl⟩ := h
        exact ⟨Eff.at_mono (store_at hc) fun id hid => .inr ⟨rfl, hid⟩, fun p hp hd => ⟨by simp [AV.free], store_free hp (hp.ev _) hc⟩⟩
  · rename_i x
    unfold nilA at h
    split at h
    · rename_i id i j hx
      cases h
      exact .still fun p hp => by have := hp.ev x; rw [hx] at this; exact this
    · cases h
      exact .still fun p hp => by simp [AV.free]
    · cases h
  · rename_i op t x y _
    unfold binA at h
    split at h
    · rename_i a b _ _
      cases hb : binV op (isBoolT (P.underlying t)) a b with
      | none => simp [hb] at h
      | some u =>
        simp only [hb, Option.map_some, Option.some.injEq, Prod.mk.injEq] at h
        obtain ⟨rfl, rfl⟩ := h
        exact .still fun p hp => by simp [AV.free]
    · cases h
  · rename_i op t x
    unfold unA at h
    split at h
    · rename_i a _
      cases hb : unV op a with
      | none => simp [hb] at h
      | some u =>
        simp only [hb, Option.map_some, Option.some.injEq, Prod.mk.injEq] at h
        obtain ⟨rfl, rfl⟩ := h
        exact .still fun p hp => by simp [AV.free]
    · cases h
  · split at h
    · unfold convA at h
      split at h
      · cases h
        exact .still fun p hp => by simp [AV.free]
      · cases h
    · cases h
  · rename_i t x lo hi
    unfold sliceO at h
    have key : ∀ k y l r, (sliceA k (st.ev y) l r).map (fun v => (v, ([] : Eff))) = some (v, f) → Mild st d (.slice t x lo hi none) v f := by
      intro k y l r e
      cases hs : sliceA k (st.ev y) l r with
      | none => simp [hs] at e
      | some v' =>
        simp only [hs, Option.map_some, Option.some.injEq, Prod.mk.injEq] at e
        obtain ⟨rfl, rfl⟩ := e
        refine .still fun p hp => ?_
        have hy := hp.ev y
        unfold sliceA at hs
        split at hs
        · split at hs
          · cases hs; simp [AV.free]
          · cases hs
        · split at hs
          · cases hs; simp [AV.free]
          · cases hs
        · rename_i hx
          split at hs
          · cases hs
            rw [hx] at hy
            simpa [AV.free] using hy
          · cases hs
        · cases hs
    split at h
    · cases h
    · cases h
    · exact key _ _ _ _ h
  · rename_i t x k
    unfold fieldAddrA at h
    split at h
    · rename_i off size ag id i j hf hx
      split at h
      · cases h
        exact .still fun p hp => by have := hp.ev x; rw [hx] at this; simpa [AV.free] using this
      · cases h
    · split at h
      · cases h
        exact .still fun p hp => by simp [AV.free]
      · cases h
    · cases h
  · rename_i t x k
    unfold fieldA at h
    split at h
    · rename_i off size ag cs hf hx
      split at h
      · cases ha : asOne ag ((cs.drop off).take size) with
        | none => rw [ha] at h; cases h
        | some u =>
          simp only [ha, Option.map_some, Option.some.injEq, Prod.mk.injEq] at h
          obtain ⟨rfl, rfl⟩ := h
          refine .still fun p hp => ?_
          have hy := hp.ev x
          rw [hx] at hy
          unfold AV.free at hy
          exact free_asOne ha (frees_take _ (frees_drop _ hy))
      · cases h
    · cases h
  · rename_i t x ix
    unfold indexAddrO at h
    split at h
    · rename_i k n hix
      cases ha : indexAddrA (elemOf P t) (st.ev x) n with
      | none => simp [ha] at h
      | some u =>
        simp only [ha, Option.map_some, Option.some.injEq, Prod.mk.injEq] at h
        obtain ⟨rfl, rfl⟩ := h
        refine .still fun p hp => ?_
        have hy := hp.ev x
        unfold indexAddrA at ha
        split at ha
        · split at ha
          · split at ha
            · split at ha
              · cases ha; simp [AV.free]
              · cases ha
            · cases ha
          · cases ha
        · rename_i hx
          split at ha
          · cases ha
            rw [hx] at hy
            simpa [AV.free] using hy
          · cases ha
        · cases ha
    · cases h
  · unfold indexA at h
    split at h
    · split at h
      · split at h
        · cases h
          exact .still fun p hp => by simp [AV.free]
        · cases h
      · cases h
    · cases h
  · rename_i x i
    unfold extractA at h
    split at h
    · rename_i vs hx
      split at h
      · rename_i u hu
        cases h
        refine .still fun p hp => ?_
        have hy := hp.ev x
        rw [hx] at hy
        unfold AV.free at hy
        exact frees_get hy hu
      · cases h
    · cases h
  · rename_i b xs ts
    unfold callA at h
    split at h
    · rename_i x t _ _
      cases hl : lenA (tkind P t) (st.ev x) with
      | none => simp [hl] at h
      | some n =>
        simp only [hl, Option.map_some, Option.some.injEq, Prod.mk.injEq] at h
        obtain ⟨rfl, rfl⟩ := h
        exact .still fun p hp => by simp [AV.free]
    · rename_i x y t t2 _ _
      split at h
      · cases hi : elemOf P t with
        | none => simp [hi] at h
        | some ei =>
          simp only [hi, Option.bind_some] at h
          cases he : elemsA st ei.2.size (st.ev y) with
          | none => simp [he] at h
          | some es =>
            simp only [he, Option.bind_some] at h
            obtain ⟨g1, g2, g3⟩ := append_at h
            exact ⟨Eff.at_mono g1 fun id hid => by rcases hid with hid | hid; exact .inl hid; exact .inr ⟨rfl, hid⟩, fun p hp hd => ⟨g3 p hd, g2 p⟩⟩
      · cases h
    · cases h
  · cases h

end Cal
