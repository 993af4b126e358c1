/- A calculus of our own, twenty-second part: every operation of the evaluator is sound. No program is named here. -/
import Derived.Test.YthaebckdhcnkfaaCalV
set_option linter.unusedSimpArgs false
set_option linter.unusedVariables false
namespace Cal
open Go Go.RowKit

variable {P : Program} {w0 w : World} {S0 S : Nat → Prop} {own : List Nat} {N : Nat} {m cap : Id → Nat} {st : St} {a : Act}

/-- Operations that make objects. -/
def mkr : Op → Bool
  | .alloc _ | .box .. | .buildSlice .. | .makeSlice .. => true
  | .call { callee := .builtin .append, .. } => true
  | _ => false

theorem gives_op {o : Oper} (h : RelAt w0 S0 own N m cap S st a w) {d : Nat} (hf : mkr o.op = true → st.Free (·.1 = d)) {v : AV} {f : Eff} (hv : evOp P d st o.op = some (v, f)) :
    ∃ u w' m' cap' S', Gives P o a w u w' ∧ RelAt w0 S0 own N m' cap' S' (st.eff f) a w' ∧ AVrep w' S' m' cap' (st.eff f).ob v u ∧ Far d m m' cap cap' := by
  have ofStill : (∃ u, Still P o a w u ∧ AVrep w S m cap st.ob v u ∧ f = []) → ∃ u w' m' cap' S', Gives P o a w u w' ∧ RelAt w0 S0 own N m' cap' S' (st.eff f) a w' ∧ AVrep w' S' m' cap' (st.eff f).ob v u ∧ Far d m m' cap cap' := by
    rintro ⟨u, h1, h2, rfl⟩
    exact ⟨u, w, m, cap, S, .inl h1, h, h2, Far.refl _ _ _⟩
  have ofGives : (∃ u w' m' cap', Gives P o a w u w' ∧ RelAt w0 S0 own N m' cap' S (st.eff f) a w' ∧ AVrep w' S m' cap' (st.eff f).ob v u ∧ Far d m m' cap cap') → ∃ u w' m' cap' S', Gives P o a w u w' ∧ RelAt w0 S0 own N m' cap' S' (st.eff f) a w' ∧ AVrep w' S' m' cap' (st.eff f).ob v u ∧ Far d m m' cap cap' := by
    rintro ⟨u, w', m', cap', h1, h2, h3, h4⟩
    exact ⟨u, w', m', cap', S, h1, h2, h3, h4⟩
  generalize hop : o.op = op at hv hf
  unfold evOp at hv
  split at hv
  · rename_i x
    cases hv
    exact ofStill ⟨_, still_move (.inl hop), h.ev x, rfl⟩
  · rename_i x
    cases hv
    exact ofStill ⟨_, still_move (.inr hop), h.ev x, rfl⟩
  · exact ofStill (still_pick hop h hv)
  · rename_i t
    cases hi : tinf P t with
    | none => simp [hi] at hv
    | some i =>
      simp only [hi, Option.bind_some] at hv
      split at hv
      · rename_i hp
        cases hv
        exact ofGives (gives_alloc hop h (hf rfl) hi hp)
      · cases hv
  · split at hv
    · rename_i h1
      cases hv
      exact ofGives (gives_box hop h (hf rfl) h1)
    · cases hv
  · rename_i t parts
    cases hi : tinf P t with
    | none => simp [hi] at hv
    | some i =>
      simp only [hi, Option.bind_some] at hv
      split at hv
      · rename_i hc
        cases hcs : fillA P t st (i.zero.map fun x => .t (.v x)) parts.toList with
        | none => simp [hcs] at hv
        | some cs =>
          simp only [hcs, Option.map_some, Option.some.injEq, Prod.mk.injEq] at hv
          obtain ⟨rfl, rfl⟩ := hv
          obtain ⟨u, h1, h2⟩ := still_build hop h hi hc.1 hc.2 hcs
          exact ofStill ⟨u, h1, h2, rfl⟩
      · cases hv
  · rename_i t len parts
    cases hi : elemOf P t with
    | none => simp [hi] at hv
    | some ei =>
      simp only [hi, Option.bind_some] at hv
      split at hv
      · rename_i hc
        obtain ⟨c1, c2, c3⟩ := hc
        cases hcs : litA st ei.2.size 0 parts.toList with
        | none => simp [hcs] at hv
        | some r =>
          simp only [hcs, Option.map_some, Option.some.injEq, Prod.mk.injEq] at hv
          obtain ⟨rfl, rfl⟩ := hv
          obtain ⟨f1, f2, f3⟩ := fine_inv (i := ei.2) (by rw [c1]; decide)
          have hm : len ≤ maxLen := by
            have := Nat.mul_le_mul_left len f2
            unfold maxLen
            omega
          obtain ⟨u, w', m', cap', S', g1, g2, g3, g4⟩ := gives_buildSlice (e := ei.1) (i := ei.2) hop h hi (hf rfl) c2 c3 f1 hm (es := r.1) (f := r.2) (by rw [hcs])
          rw [eff_append]
          exact ⟨u, w', m', cap', S', g1, g2, g3, g4⟩
      · cases hv
  · exact ofGives (gives_makeSlice hop h (hf rfl) hv)
  · rename_i t x
    cases hi : tinf P t with
    | none => simp [hi] at hv
    | some i =>
      simp only [hi, Option.bind_some] at hv
      cases hc : loadA st i.agg i.size (st.ev x) with
      | none => simp [hc] at hv
      | some v' =>
        simp only [hc, Option.map_some, Option.some.injEq, Prod.mk.injEq] at hv
        obtain ⟨rfl, rfl⟩ := hv
        obtain ⟨u, h1, h2⟩ := still_load hop h hi hc
        exact ofStill ⟨u, h1, h2, rfl⟩
  · rename_i t x y
    cases hi : tinf P t with
    | none => simp [hi] at hv
    | some i =>
      simp only [hi, Option.bind_some] at hv
      cases hc : storeA st i.size (st.ev y) (st.ev x) with
      | none => simp [hc] at hv
      | some g =>
        simp only [hc, Option.map_some, Option.some.injEq, Prod.mk.injEq] at hv
        obtain ⟨rfl, rfl⟩ := hv
        obtain ⟨w', S', h1, h2⟩ := gives_store hop h hi hc
        exact ⟨undef, w', m, cap, S', h1, h2, by unfold AVrep; trivial, Far.refl _ _ _⟩
  · exact ofStill (still_nil hop h hv)
  · exact ofStill (still_bin hop h hv)
  · exact ofStill (still_un hop h hv)
  · split at hv
    · rename_i hs
      exact ofStill (still_conv hop hs h hv)
    · cases hv
  · obtain ⟨rfl, u, h1, h2⟩ := still_slice hop h hv
    exact ofStill ⟨u, h1, h2, rfl⟩
  · exact ofStill (still_fieldAddr hop h hv)
  · exact ofStill (still_field hop h hv)
  · exact ofStill (still_indexAddr hop h hv)
  · exact ofStill (still_index hop h hv)
  · exact ofStill (still_extract hop h hv)
  · rename_i b xs ts
    unfold callA at hv
    split at hv
    · rename_i x t e1 e2
      have hx : xs = #[x] := Array.toList_inj.1 e1
      have ht : ts = #[t] := Array.toList_inj.1 e2
      subst hx ht
      cases hl : lenA (tkind P t) (st.ev x) with
      | none => simp [hl] at hv
      | some n =>
        simp only [hl, Option.map_some, Option.some.injEq, Prod.mk.injEq] at hv
        obtain ⟨rfl, rfl⟩ := hv
        obtain ⟨h1, h2⟩ := still_len hop h hl
        exact ofStill ⟨_, h1, h2, rfl⟩
    · rename_i x y t t2 e1 e2
      have hx : xs = #[x, y] := Array.toList_inj.1 e1
      have ht : ts = #[t, t2] := Array.toList_inj.1 e2
      subst hx ht
      split at hv
      · rename_i htt
        subst htt
        cases hi : elemOf P t with
        | none => simp [hi] at hv
        | some ei =>
          simp only [hi, Option.bind_some] at hv
          cases he : elemsA st ei.2.size (st.ev y) with
          | none => simp [he] at hv
          | some es =>
            simp only [he, Option.bind_some] at hv
            exact ofGives (gives_append hop h hi (hf rfl) he hv)
      · cases hv
    · cases hv
  · cases hv

end Cal
