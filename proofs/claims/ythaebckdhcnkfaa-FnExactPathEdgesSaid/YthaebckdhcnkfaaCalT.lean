/- A calculus of our own, nineteenth part: slices of slices and strings. No program is named here. -/
import Derived.Test.YthaebckdhcnkfaaCalS
set_option linter.unusedSimpArgs false
set_option linter.unusedVariables false
namespace Cal
open Go Go.RowKit

variable {P : Program} {w0 w : World} {S0 S : Nat → Prop} {own : List Nat} {N : Nat} {m cap : Id → Nat} {st : St} {a : Act}

/-- A bound of a slice, and its number. -/
def Bound : Option Value → Option Int → Prop
  | none, none => True
  | some (.int _ n), some n' => n' = n
  | _, _ => False

theorem run_sliceBound (k : IntKind) (n : Int) (y : Nat) (c : BoundsCode) (w : World) (h0 : 0 ≤ n) (h1 : n ≤ y) : (Instr.sliceBound (.int k n) y c).run P w = .ok n.toNat w := by
  simp [Instr.sliceBound, asIntOf, h0, h1]

theorem run_bounds (b : Bool) (len c : Nat) (w : World) {low high : Option Value} {lo hi : Option Int} (hl : Bound low lo) (hh : Bound high hi) (h0 : 0 ≤ lo.getD 0) (h1 : lo.getD 0 ≤ hi.getD len) (h2 : hi.getD len ≤ len) (h3 : len ≤ c) :
    (Instr.sliceBounds b len c low high none).run P w = .ok ((lo.getD 0).toNat, (hi.getD len).toNat, c) w := by
  unfold Instr.sliceBounds
  cases high with
  | none =>
    cases hi with
    | some _ => exact hh.elim
    | none =>
      cases low with
      | none =>
        cases lo with
        | some _ => exact hl.elim
        | none => simp
      | some v =>
        cases v <;> first | (cases lo <;> exact hl.elim) | skip
        rename_i k n
        cases lo with
        | none => exact hl.elim
        | some n' =>
          simp only [Bound] at hl
          subst hl
          simp only [Option.getD_some, Option.getD_none] at *
          simp [run_sliceBound k n' len _ w h0 h1]
  | some v =>
    cases v <;> first | (cases hi <;> exact hh.elim) | skip
    rename_i k n
    cases hi with
    | none => exact hh.elim
    | some n' =>
      simp only [Bound] at hh
      subst hh
      simp only [Option.getD_some] at *
      have hb : ∀ code, (Instr.sliceBound (.int k n') c code).run P w = .ok n'.toNat w := fun code => run_sliceBound k n' c code w (by omega) (by omega)
      cases low with
      | none =>
        cases lo with
        | some _ => exact hl.elim
        | none => simp [hb]
      | some v =>
        cases v <;> first | (cases lo <;> exact hl.elim) | skip
        rename_i k2 n2
        cases lo with
        | none => exact hl.elim
        | some n2' =>
          simp only [Bound] at hl
          subst hl
          simp only [Option.getD_some] at *
          simp [hb, run_sliceBound k2 n2' n'.toNat _ w h0 (by omega)]

theorem intA_bound (h : RelAt w0 S0 own N m cap S st a w) {x : Operand} {n : Int} (hx : intA (st.ev x) = some n) : Bound (some (a.eval x)) (some n) := by
  have hr := h.ev x
  unfold intA at hx
  split at hx
  · rename_i k n' hp
    rw [hp] at hr
    obtain ⟨hr, _⟩ := AVrep_v_inv hr
    cases hx
    rw [hr]
    rfl
  · cases hx

theorem sliceO_inv (h : RelAt w0 S0 own N m cap S st a w) {k : TK} {x : AV} {lo hi : Option Operand} {v : AV} {f : Eff} (hv : sliceO k x (lo.map fun o => intA (st.ev o)) (hi.map fun o => intA (st.ev o)) = some (v, f)) :
    f = [] ∧ ∃ l r, Bound (lo.map a.eval) l ∧ Bound (hi.map a.eval) r ∧ sliceA k x l r = some v := by
  have key : ∀ l r, (sliceA k x l r).map (fun v => (v, ([] : Eff))) = some (v, f) → f = [] ∧ sliceA k x l r = some v := by
    intro l r e
    cases hs : sliceA k x l r with
    | none => simp [hs] at e
    | some v' => simp [hs] at e; exact ⟨e.2, by rw [e.1]⟩
  cases lo with
  | none =>
    cases hi with
    | none => obtain ⟨e1, e2⟩ := key none none hv; exact ⟨e1, none, none, trivial, trivial, e2⟩
    | some y =>
      cases hy : intA (st.ev y) with
      | none => simp only [Option.map_none, Option.map_some, hy] at hv; exact absurd hv (by simp [sliceO])
      | some n => simp only [Option.map_none, Option.map_some, hy] at hv; obtain ⟨e1, e2⟩ := key none (some n) hv; exact ⟨e1, none, some n, trivial, intA_bound h hy, e2⟩
  | some y =>
    cases hy : intA (st.ev y) with
    | none =>
      cases hi with
      | none => simp only [Option.map_none, Option.map_some, hy] at hv; exact absurd hv (by simp [sliceO])
      | some z => simp only [Option.map_none, Option.map_some, hy] at hv; exact absurd hv (by simp [sliceO])
    | some n =>
      cases hi with
      | none => simp only [Option.map_none, Option.map_some, hy] at hv; obtain ⟨e1, e2⟩ := key (some n) none hv; exact ⟨e1, some n, none, intA_bound h hy, trivial, e2⟩
      | some z =>
        cases hz : intA (st.ev z) with
        | none => simp only [Option.map_none, Option.map_some, hy, hz] at hv; exact absurd hv (by simp [sliceO])
        | some n2 => simp only [Option.map_some, hy, hz] at hv; obtain ⟨e1, e2⟩ := key (some n) (some n2) hv; exact ⟨e1, some n, some n2, intA_bound h hy, intA_bound h hz, e2⟩

theorem still_slice {o : Oper} {t : TypeId} {x : Operand} {lo hi : Option Operand} (ho : o.op = .slice t x lo hi none) (h : RelAt w0 S0 own N m cap S st a w) {v : AV} {f : Eff}
    (hv : sliceO (tkind P t) (st.ev x) (lo.map fun o => intA (st.ev o)) (hi.map fun o => intA (st.ev o)) = some (v, f)) : f = [] ∧ ∃ u, Still P o a w u ∧ AVrep w S m cap st.ob v u := by
  obtain ⟨e1, l, r, hl, hr, hs⟩ := sliceO_inv h hv
  refine ⟨e1, ?_⟩
  have hx := h.ev x
  have fin : ∀ u, (P.underlying t = some .string ∨ ∃ e, P.underlying t = some (.slice e)) → (Instr.slice t (a.eval x) (lo.map a.eval) (hi.map a.eval) none).run P w = .ok u w → Still P o a w u := fun u hd hu => by
    have : (Instr.sliceAt t (a.eval x) (lo.map a.eval) (hi.map a.eval) none).run P w = .ok u w := by
      rcases hd with hd | ⟨e, hd⟩ <;> simp [Instr.sliceAt, run_underlying hd, hu]
    simp [Still, execOp, ho, this]
  unfold sliceA at hs
  split at hs
  · rename_i s hk hp
    rw [hp] at hx
    obtain ⟨hx, _⟩ := AVrep_v_inv hx
    split at hs
    · rename_i hc
      obtain ⟨c1, c2, c3⟩ := hc
      cases hs
      refine ⟨_, fin _ (.inl (tkind_str hk)) ?_, AVrep_v rfl⟩
      unfold Instr.slice
      rw [hx]
      simp [run_underlying (tkind_str hk), run_bounds false s.size s.size w hl hr c1 c2 c3 (Nat.le_refl _)]
    · cases hs
  · rename_i size es hk hp
    obtain ⟨e, i, k1, k2, k3⟩ := tkind_sl hk
    rw [hp] at hx
    unfold AVrep Trep at hx
    obtain ⟨A, n, c, x1, x2, x3, x4, x5⟩ := hx
    split at hs
    · rename_i hc
      obtain ⟨c0, c1, c2, c3⟩ := hc
      cases hs
      subst x2
      refine ⟨_, fin _ (.inr ⟨e, k1⟩) (by unfold Instr.slice; rw [x1]; simp only [Sem.run_bind, run_underlying k1, Result.andThen_ok, run_bounds true es.length c w hl hr c1 c2 c3 x3, runT_sizeOf k2, Sem.run_pure]; rfl), ?_⟩
      unfold AVrep Trep
      have hwl : (window es (l.getD 0).toNat (r.getD es.length - l.getD 0).toNat).length = (r.getD es.length).toNat - (l.getD 0).toNat := by
        unfold window
        rw [List.length_take, List.length_drop]
        omega
      refine ⟨_, _, _, rfl, hwl, by omega, by omega, fun hpos => ?_⟩
      obtain ⟨b, off, sz, y1, y2, y3⟩ := x5 (by omega)
      have hne : c ≠ (l.getD 0).toNat := by omega
      rw [if_neg hne, y1]
      refine ⟨b, off + (l.getD 0).toNat * i.size, sz, by simp [add_none], y2, ?_⟩
      rw [Ereps_iff] at y3 ⊢
      intro j el hj
      unfold window at hj
      rw [List.getElem?_take] at hj
      split at hj
      · rw [List.getElem?_drop] at hj
        obtain ⟨z1, z2⟩ := y3 _ el hj
        have hsz : sz = i.size := by
          have := List.all_eq_true.1 c0 el (List.mem_of_getElem? hj)
          simp only [beq_iff_eq] at this
          rw [← z1, this, k3]
        subst hsz
        refine ⟨z1, ?_⟩
        rw [Nat.add_mul, ← Nat.add_assoc] at z2
        exact z2
      · cases hj
    · cases hs
  · rename_i size id sz i0 n hk hp
    obtain ⟨e, i, k1, k2, k3⟩ := tkind_sl hk
    rw [hp] at hx
    unfold AVrep at hx
    obtain ⟨A, c, x1, x2, x3, x4, x5, x6⟩ := hx
    split at hs
    · rename_i hc
      obtain ⟨c0, c1, c2, c3⟩ := hc
      cases hs
      subst c0
      refine ⟨_, fin _ (.inr ⟨e, k1⟩) (by unfold Instr.slice; rw [x1]; simp only [Sem.run_bind, run_underlying k1, Result.andThen_ok, run_bounds true n c w hl hr c1 c2 c3 x2, runT_sizeOf k2, Sem.run_pure]; rfl), ?_⟩
      unfold AVrep
      have hsub : (r.getD n - l.getD 0).toNat = (r.getD n).toNat - (l.getD 0).toNat := by omega
      rw [hsub]
      refine ⟨_, _, rfl, by omega, by omega, fun hpos => ?_, x5, fun sz' es hes => ?_⟩
      · obtain ⟨A', hA⟩ := x4 (by omega)
        rw [if_neg (by omega), hA]
        exact ⟨_, rfl⟩
      · obtain ⟨g1, g2, g3, g4, g5⟩ := x6 sz' es hes
        refine ⟨g1, by omega, by omega, fun hpos => ?_, fun hz => ?_⟩
        · rw [if_neg (by omega), g4 (by omega)]
          simp [add_none, Nat.add_mul, k3]
        · obtain ⟨g6, g7⟩ := g5 (by omega)
          have hl0 : (l.getD 0).toNat = 0 := by omega
          rw [hl0]
          refine ⟨?_, by omega⟩
          split
          · exact g6
          · rw [g6]; simp [add_none]
    · cases hs
  · cases hs

end Cal
