/- A calculus of our own, sixth part: addresses, loads, lengths: the model does what the evaluator says. No program is named here. -/
import Derived.Test.YthaebckdhcnkfaaCalF
set_option linter.unusedSimpArgs false
set_option linter.unusedVariables false
namespace Cal
open Go Go.RowKit

variable {P : Program} {w0 w : World} {S0 S : Nat → Prop} {own : List Nat} {N : Nat} {m cap : Id → Nat} {st : St} {a : Act}

theorem tinf_inv {t : TypeId} {i : TI} (h : tinf P t = some i) : ∃ inf d z, P.info? t = some inf ∧ P.underlying t = some d ∧ inf.zero = some z ∧ i.agg = isAggB d ∧ i.size = inf.size ∧ i.bytes = inf.bytes ∧ i.zero = z.cells.toList := by
  unfold tinf at h
  split at h
  · rename_i inf d h1 h2
    split at h
    · rename_i z h3
      cases h
      exact ⟨inf, d, z, h1, h2, h3, rfl, rfl, rfl, rfl⟩
    · cases h
  · cases h

theorem runT_sizeOf {t : TypeId} {i : TI} (h : tinf P t = some i) (w : World) : (Go.sizeOf t).run P w = .ok i.size w := by
  obtain ⟨inf, d, z, h1, h2, h3, h4, h5, h6, h7⟩ := tinf_inv h
  simp [Go.sizeOf, typeInfo, h1, h5]
theorem runT_isAgg {t : TypeId} {i : TI} (h : tinf P t = some i) (w : World) : (isAgg t).run P w = .ok i.agg w := by
  obtain ⟨inf, d, z, h1, h2, h3, h4, h5, h6, h7⟩ := tinf_inv h
  unfold isAgg
  simp only [Sem.run_bind, run_underlying h2, Result.andThen_ok, h4]
  cases d <;> simp [isAggB]
theorem runT_zeroValue {t : TypeId} {i : TI} (h : tinf P t = some i) (w : World) : ∃ z : Value, (zeroValue t).run P w = .ok z w ∧ z.cells.toList = i.zero := by
  obtain ⟨inf, d, z, h1, h2, h3, h4, h5, h6, h7⟩ := tinf_inv h
  exact ⟨z, by simp [zeroValue, typeInfo, h1, h3], h7.symm⟩

theorem foff_inv {t f off size : Nat} {agg : Bool} (h : foff P t f = some (off, size, agg)) : ∃ fs fd i, P.underlying t = some (.struct fs) ∧ fs[f]? = some fd ∧ tinf P fd.type = some i ∧ fd.offset = off ∧ i.size = size ∧ i.agg = agg := by
  unfold foff at h
  split at h
  · rename_i fs h1
    split at h
    · rename_i fd h2
      split at h
      · rename_i i h3
        simp only [Option.some.injEq, Prod.mk.injEq] at h
        exact ⟨fs, fd, i, h1, h2, h3, h.1, h.2.1, h.2.2⟩
      · cases h
    · cases h
  · cases h

theorem elemOf_inv {t e : TypeId} {i : TI} (h : elemOf P t = some (e, i)) : P.underlying t = some (.slice e) ∧ tinf P e = some i := by
  unfold elemOf at h
  split at h
  · rename_i e' h1
    cases h2 : tinf P e' with
    | none => rw [h2] at h; cases h
    | some i' =>
      rw [h2] at h
      simp only [Option.map_some, Option.some.injEq, Prod.mk.injEq] at h
      obtain ⟨rfl, rfl⟩ := h
      exact ⟨h1, h2⟩
  · cases h

theorem add_none (b off n : Nat) : (⟨b, off, none⟩ : Addr).add n = ⟨b, off + n, none⟩ := by
  unfold Addr.add
  split
  · simp_all
  · rfl

theorem still_fieldAddr {o : Oper} {t : TypeId} {x : Operand} {f : Nat} (ho : o.op = .fieldAddr t x f) (h : RelAt w0 S0 own N m cap S st a w) {v : AV} {e : Eff} (hv : fieldAddrA (foff P t f) (st.ev x) = some (v, e)) :
    ∃ u, Still P o a w u ∧ AVrep w S m cap st.ob v u ∧ e = [] := by
  have hx := h.ev x
  unfold fieldAddrA at hv
  split at hv
  · rename_i off size agg id i j hf hp
    obtain ⟨fs, fd, inf, h1, h2, h3, h4, h5, h6⟩ := foff_inv hf
    split at hv
    · rename_i hs
      simp only [Option.some.injEq, Prod.mk.injEq] at hv
      obtain ⟨rfl, rfl⟩ := hv
      rw [hp] at hx
      unfold AVrep at hx
      obtain ⟨ad, hx1, hx2, hx3⟩ := hx
      refine ⟨.pointer (some (ad.add off)), ?_, ?_, rfl⟩
      · have hne : ¬ inf.size = 0 := by omega
        simp [Still, execOp, ho, hx1, Instr.fieldAt, Instr.sureAddr, run_underlying h1, h2, fieldPlace, runT_sizeOf h3, hne, h4]
      · unfold AVrep
        refine ⟨_, rfl, fun cs hc hi => ?_, fun sz es hc hi => ?_⟩
        · rw [hx2 cs hc hi, add_none]
        · rw [hx3 sz es hc hi, add_none, Nat.add_assoc]
    · cases hv
  · rename_i off size agg cs hf hp
    obtain ⟨fs, fd, inf, h1, h2, h3, h4, h5, h6⟩ := foff_inv hf
    split at hv
    · rename_i hs
      simp only [Option.some.injEq, Prod.mk.injEq] at hv
      obtain ⟨rfl, rfl⟩ := hv
      rw [hp] at hx
      unfold AVrep at hx
      obtain ⟨b, off0, hx1, hx2, hx3⟩ := hx
      refine ⟨.pointer (some ⟨b, off0 + off, none⟩), ?_, ?_, rfl⟩
      · have hne : ¬ inf.size = 0 := by omega
        simp [Still, execOp, ho, hx1, Instr.fieldAt, Instr.sureAddr, run_underlying h1, h2, fieldPlace, runT_sizeOf h3, hne, h4, add_none]
      · unfold AVrep
        exact ⟨b, off0 + off, rfl, hx2, hx3.drop off⟩
    · cases hv
  · cases hv

theorem still_indexAddr {o : Oper} {t : TypeId} {x ix : Operand} (ho : o.op = .indexAddr t x ix) (h : RelAt w0 S0 own N m cap S st a w) {v : AV} {e : Eff} (hv : indexAddrO (elemOf P t) (st.ev x) (st.ev ix) = some (v, e)) :
    ∃ u, Still P o a w u ∧ AVrep w S m cap st.ob v u ∧ e = [] := by
  have hx := h.ev x
  have hi := h.ev ix
  unfold indexAddrO at hv
  split at hv
  · rename_i k n hn
    rw [hn] at hi
    obtain ⟨hi, _⟩ := AVrep_v_inv hi
    unfold indexAddrA at hv
    split at hv
    · rename_i el inf es hel hp
      obtain ⟨h1, h2⟩ := elemOf_inv hel
      rw [hp] at hx
      split at hv
      · rename_i h0
        split at hv
        · rename_i e0 he0
          split at hv
          · rename_i hsz
            simp only [Option.map_some, Option.some.injEq, Prod.mk.injEq] at hv
            obtain ⟨rfl, rfl⟩ := hv
            unfold AVrep Trep at hx
            obtain ⟨A, n', c, hx1, hx2, hx3, hx4, hx5⟩ := hx
            have hlt : n.toNat < es.length := (List.getElem?_eq_some_iff.1 he0).1
            obtain ⟨b, off, sz, rfl, hS, hE⟩ := hx5 (by omega)
            obtain ⟨g1, g2⟩ := hE.get he0
            refine ⟨.pointer (some ⟨b, off + n.toNat * sz, none⟩), ?_, ?_, rfl⟩
            · have hr : n < (n' : Int) := by omega
              have hz : inf.size = sz := by omega
              simp [Still, execOp, ho, hx1, hi, Instr.indexAt, asIntOf, run_underlying h1, h0, hr, runT_sizeOf h2, add_none, hz]
            · unfold AVrep
              exact ⟨b, _, rfl, hS, g2⟩
          · cases hv
        · cases hv
      · cases hv
    · rename_i el inf id sz r k' hel hp
      obtain ⟨h1, h2⟩ := elemOf_inv hel
      rw [hp] at hx
      split at hv
      · rename_i hc
        obtain ⟨hc1, hc2, hc3⟩ := hc
        simp only [Option.map_some, Option.some.injEq, Prod.mk.injEq] at hv
        obtain ⟨rfl, rfl⟩ := hv
        unfold AVrep at hx
        obtain ⟨A, c, hx1, hx2, hx3, hx4, hxv, hx5⟩ := hx
        obtain ⟨ad, rfl⟩ := hx4 (by omega)
        have hr : n < (k' : Int) := by omega
        refine ⟨.pointer (some (ad.add (n.toNat * sz))), ?_, ?_, rfl⟩
        · simp [Still, execOp, ho, hx1, hi, Instr.indexAt, asIntOf, run_underlying h1, hc2, hr, runT_sizeOf h2, ← hc1]
        · unfold AVrep
          refine ⟨_, rfl, fun cs hcs h00 => ?_, fun sz' es hes hlt => ?_⟩
          · exact absurd hcs (hxv cs)
          · obtain ⟨g1, g2, g3, g4, g5⟩ := hx5 sz' es hes
            have := g4 (by omega)
            simp only [Option.some.injEq] at this
            rw [this, add_none, g1, Nat.add_mul, Nat.add_zero]
      · cases hv
    · cases hv
  · cases hv

end Cal
