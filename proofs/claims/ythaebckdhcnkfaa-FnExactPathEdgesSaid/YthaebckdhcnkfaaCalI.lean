/- A calculus of our own, eighth part: parts of values, strings, lengths, slices of slices, struct literals. No program is named here. -/
import Derived.Test.YthaebckdhcnkfaaCalH
set_option linter.unusedSimpArgs false
set_option linter.unusedVariables false
namespace Cal
open Go Go.RowKit

variable {P : Program} {w0 w : World} {S0 S : Nat → Prop} {own : List Nat} {N : Nat} {m cap : Id → Nat} {st : St} {a : Act}

theorem tkind_str {t : TypeId} (h : tkind P t = .str) : P.underlying t = some .string := by
  unfold tkind at h
  split at h
  · assumption
  · split at h <;> cases h
  · cases h
theorem tkind_sl {t : TypeId} {k : Nat} (h : tkind P t = .sl k) : ∃ e i, P.underlying t = some (.slice e) ∧ tinf P e = some i ∧ i.size = k := by
  unfold tkind at h
  split at h
  · cases h
  · split at h
    · rename_i i hi
      cases h
      exact ⟨_, i, by assumption, hi, rfl⟩
    · cases h
  · cases h

theorem still_field {o : Oper} {t : TypeId} {x : Operand} {f : Nat} (ho : o.op = .field t x f) (h : RelAt w0 S0 own N m cap S st a w) {v : AV} {e : Eff} (hv : fieldA (foff P t f) (st.ev x) = some (v, e)) :
    ∃ u, Still P o a w u ∧ AVrep w S m cap st.ob v u ∧ e = [] := by
  have hx := h.ev x
  unfold fieldA at hv
  split at hv
  · rename_i off size agg cs hf hp
    obtain ⟨fs, fd, inf, h1, h2, h3, h4, h5, h6⟩ := foff_inv hf
    split at hv
    · rename_i hs
      cases has : asOne agg ((cs.drop off).take size) with
      | none => rw [has] at hv; cases hv
      | some v' =>
        rw [has] at hv
        simp only [Option.map_some, Option.some.injEq, Prod.mk.injEq] at hv
        obtain ⟨rfl, rfl⟩ := hv
        rw [hp] at hx
        unfold AVrep at hx
        obtain ⟨us, hx1, hx2⟩ := hx
        have hlen := hx2.len
        obtain ⟨r1, r2⟩ := asOne_rep has ((hx2.drop off).take size)
        refine ⟨_, ?_, r1, rfl⟩
        cases hagg : agg
        · obtain ⟨u, hu⟩ := r2 hagg
          have h0 : us[off]? = some u := by
            have : ((us.drop off).take size)[0]? = some u := by rw [hu]; rfl
            rw [List.getElem?_take] at this
            split at this
            · rw [List.getElem?_drop] at this
              simpa using this
            · cases this
          have hi : inf.agg = false := by rw [h6, hagg]
          simp [Still, execOp, ho, hx1, Instr.field, run_underlying h1, h2, asAgg, part, runT_isAgg h3, hi, h4, h0, hu]
        · have hi : inf.agg = true := by rw [h6, hagg]
          simp [Still, execOp, ho, hx1, Instr.field, run_underlying h1, h2, asAgg, part, runT_isAgg h3, runT_sizeOf h3, hi, h4, h5, List.take_drop]
    · cases hv
  · cases hv

theorem still_index {o : Oper} {t : TypeId} {x ix : Operand} (ho : o.op = .index t x ix) (h : RelAt w0 S0 own N m cap S st a w) {v : AV} {e : Eff} (hv : indexA (tkind P t) (st.ev x) (st.ev ix) = some (v, e)) :
    ∃ u, Still P o a w u ∧ AVrep w S m cap st.ob v u ∧ e = [] := by
  have hx := h.ev x
  have hi := h.ev ix
  unfold indexA at hv
  split at hv
  · rename_i s k n hk hs hn
    rw [hs] at hx
    rw [hn] at hi
    obtain ⟨hx, _⟩ := AVrep_v_inv hx
    obtain ⟨hi, _⟩ := AVrep_v_inv hi
    split at hv
    · rename_i h0
      split at hv
      · rename_i b hb
        simp only [Option.some.injEq, Prod.mk.injEq] at hv
        obtain ⟨rfl, rfl⟩ := hv
        exact ⟨.int .u8 b.toNat, by simp [Still, execOp, ho, hx, hi, Instr.index, asIntOf, run_underlying (tkind_str hk), h0, hb], AVrep_v rfl, rfl⟩
      · cases hv
    · cases hv
  · cases hv

theorem still_extract {o : Oper} {x : Operand} {i : Nat} (ho : o.op = .extract x i) (h : RelAt w0 S0 own N m cap S st a w) {v : AV} {e : Eff} (hv : extractA (st.ev x) i = some (v, e)) :
    ∃ u, Still P o a w u ∧ AVrep w S m cap st.ob v u ∧ e = [] := by
  have hx := h.ev x
  unfold extractA at hv
  split at hv
  · rename_i vs hp
    rw [hp] at hx
    unfold AVrep at hx
    obtain ⟨us, hx1, hx2⟩ := hx
    split at hv
    · rename_i v' hv'
      simp only [Option.some.injEq, Prod.mk.injEq] at hv
      obtain ⟨rfl, rfl⟩ := hv
      obtain ⟨u, g1, g2⟩ := hx2.get hv'
      exact ⟨u, by simp [Still, execOp, ho, hx1, Instr.extract, g1], g2, rfl⟩
    · cases hv
  · cases hv

theorem still_len {o : Oper} {t : TypeId} {x : Operand} (ho : o.op = .call ⟨.builtin .len, #[x], #[t]⟩) (h : RelAt w0 S0 own N m cap S st a w) {n : Nat} (hv : lenA (tkind P t) (st.ev x) = some n) :
    Still P o a w (.int .i64 n) ∧ AVrep w S m cap st.ob (.t (.v (.int .i64 n))) (.int .i64 n) := by
  refine ⟨?_, AVrep_v rfl⟩
  have hx := h.ev x
  have key : (Builtin.len_ #[t] o.type #[a.eval x]).run P w = .ok (.int .i64 n) w := by
    unfold lenA at hv
    split at hv
    · rename_i s hk hp
      rw [hp] at hx
      obtain ⟨hx, _⟩ := AVrep_v_inv hx
      simp only [Option.some.injEq] at hv
      subst hv
      simp [Builtin.len_, hx, run_underlying (tkind_str hk), goInt]
    · rename_i k hk hp
      obtain ⟨e, i, h1, _, _⟩ := tkind_sl hk
      rw [hp] at hx
      obtain ⟨hx, _⟩ := AVrep_v_inv hx
      simp only [Option.some.injEq] at hv
      subst hv
      simp [Builtin.len_, hx, run_underlying h1, goInt]
    · rename_i k es hk hp
      obtain ⟨e, i, h1, _, _⟩ := tkind_sl hk
      rw [hp] at hx
      unfold AVrep Trep at hx
      obtain ⟨A, n', c, hx1, hx2, _⟩ := hx
      simp only [Option.some.injEq] at hv
      subst hv
      simp [Builtin.len_, hx1, run_underlying h1, goInt, hx2]
    · rename_i k id sz i n' hk hp
      obtain ⟨e, i', h1, _, _⟩ := tkind_sl hk
      rw [hp] at hx
      unfold AVrep at hx
      obtain ⟨A, c, hx1, _⟩ := hx
      simp only [Option.some.injEq] at hv
      subst hv
      simp [Builtin.len_, hx1, run_underlying h1, goInt]
    · cases hv
  simp [Still, execOp, ho, resolve, invoke, builtin, key]

end Cal
