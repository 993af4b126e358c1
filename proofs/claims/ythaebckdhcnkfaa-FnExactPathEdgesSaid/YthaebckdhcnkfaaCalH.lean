/- A calculus of our own, seventh part: loads, lengths, slices, parts: the model does what the evaluator says. No program is named here. -/
import Derived.Test.YthaebckdhcnkfaaCalG
set_option linter.unusedSimpArgs false
set_option linter.unusedVariables false
namespace Cal
open Go Go.RowKit

variable {P : Program} {w0 w : World} {S0 S : Nat → Prop} {own : List Nat} {N : Nat} {m cap : Id → Nat} {st : St} {a : Act}

/-- The cells from a place on hold these values. -/
def Holds (w : World) (b off : Nat) (us : List Value) : Prop := ∀ j u, us[j]? = some u → w.cell? ⟨b, off + j, none⟩ = some u

theorem run_loadFrom (b off : Nat) : ∀ (us : List Value) (i : Nat) (acc : Array Value), Holds w b (off + i) us → (loadCellsFrom ⟨b, off, none⟩ i us.length acc).run P w = .ok (acc ++ us.toArray) w
  | [], i, acc, _ => by simp [loadCellsFrom]
  | u :: us, i, acc, h => by
    have h0 := h 0 u rfl
    have h1 : Holds w b (off + (i + 1)) us := fun j v hv => by
      have := h (j + 1) v (by simpa using hv)
      rw [show off + (i + 1) + j = off + i + (j + 1) by omega]; exact this
    simp only [List.length_cons, loadCellsFrom, add_none]
    have hl : (load ⟨b, off + i, none⟩).run P w = .ok u w := by
      simp only [load, Sem.run]
      rw [show off + i = off + i + 0 by omega, h0]
    simp only [Sem.run_bind, hl, Result.andThen_ok]
    rw [run_loadFrom b off us (i + 1) (acc.push u) h1]
    simp

theorem run_loadAt {t : TypeId} {i : TI} (ht : tinf P t = some i) (b off : Nat) (us : List Value) (hs : us.length = i.size) (h : Holds w b off us) (hone : i.agg = false → ∃ u, us = [u]) :
    (Instr.loadAt t (.pointer (some ⟨b, off, none⟩))).run P w = .ok (if i.agg then .agg us.toArray else us.headD undef) w := by
  unfold Instr.loadAt Instr.sureAddr loadVar
  simp only [Sem.run_bind, Sem.run_pure, Result.andThen_ok, runT_isAgg ht]
  cases hi : i.agg
  · obtain ⟨u, rfl⟩ := hone hi
    have h0 := h 0 u rfl
    simp only [load, Sem.run, if_false, Bool.false_eq_true]
    rw [show off = off + 0 by omega, h0]
    simp
  · simp only [if_true, Sem.run_bind, runT_sizeOf ht, Result.andThen_ok, loadCells]
    rw [← hs, run_loadFrom b off us 0 #[] (by simpa using h)]
    simp

theorem Creps.vals {b : Nat} {ob : Id → Option Ob} : ∀ {off : Nat} {xs : List T}, Creps w S b off xs → ∃ us : List Value, us.length = xs.length ∧ Holds w b off us ∧ AVreps w S m cap ob (xs.map .t) us
  | off, [], _ => ⟨[], rfl, fun j u h => by simp at h, by simp [AVreps]⟩
  | off, x :: xs, h => by
    unfold Creps at h
    obtain ⟨⟨u, h1, h2⟩, h3⟩ := h
    obtain ⟨us, g1, g2, g3⟩ := Creps.vals (ob := ob) h3
    refine ⟨u :: us, by simp [g1], fun j v hv => ?_, ?_⟩
    · cases j with
      | zero => simp at hv; subst hv; exact h1
      | succ j =>
        have := g2 j v (by simpa using hv)
        rw [show off + (j + 1) = off + 1 + j by omega]; exact this
    · simp only [List.map_cons]; unfold AVreps
      exact ⟨u, us, rfl, by unfold AVrep; exact h2, g3⟩

theorem AVreps.len {ob : Id → Option Ob} : ∀ {vs : List AV} {us : List Value}, AVreps w S m cap ob vs us → us.length = vs.length
  | [], us, h => by unfold AVreps at h; simp [h]
  | v :: vs, us, h => by
    unfold AVreps at h
    obtain ⟨u, us', rfl, _, h3⟩ := h
    simp [AVreps.len h3]

theorem AVreps.drop {ob : Id → Option Ob} : ∀ {vs : List AV} {us : List Value}, AVreps w S m cap ob vs us → ∀ j, AVreps w S m cap ob (vs.drop j) (us.drop j)
  | vs, us, h, 0 => by simpa using h
  | [], us, h, j + 1 => by unfold AVreps at h; subst h; simp [AVreps]
  | v :: vs, us, h, j + 1 => by
    unfold AVreps at h
    obtain ⟨u, us', rfl, _, h3⟩ := h
    simpa using AVreps.drop h3 j

theorem AVreps.take {ob : Id → Option Ob} : ∀ {vs : List AV} {us : List Value}, AVreps w S m cap ob vs us → ∀ j, AVreps w S m cap ob (vs.take j) (us.take j)
  | vs, us, h, 0 => by simp [AVreps]
  | [], us, h, j + 1 => by unfold AVreps at h; subst h; simp [AVreps]
  | v :: vs, us, h, j + 1 => by
    unfold AVreps at h
    obtain ⟨u, us', rfl, h2, h3⟩ := h
    rw [List.take_succ_cons, List.take_succ_cons]; unfold AVreps
    exact ⟨u, _, rfl, h2, AVreps.take h3 j⟩

theorem AVreps.get {ob : Id → Option Ob} : ∀ {vs : List AV} {us : List Value}, AVreps w S m cap ob vs us → ∀ {j : Nat} {v : AV}, vs[j]? = some v → ∃ u, us[j]? = some u ∧ AVrep w S m cap ob v u
  | [], us, h, j, v, hv => by simp at hv
  | x :: vs, us, h, j, v, hv => by
    unfold AVreps at h
    obtain ⟨u, us', rfl, h2, h3⟩ := h
    cases j with
    | zero => simp at hv; subst hv; exact ⟨u, rfl, h2⟩
    | succ j =>
      obtain ⟨u', g1, g2⟩ := AVreps.get h3 (j := j) (v := v) (by simpa using hv)
      exact ⟨u', by simpa using g1, g2⟩

/-- One value out of cells. -/
theorem asOne_rep {ob : Id → Option Ob} {agg : Bool} {cs : List AV} {v : AV} {us : List Value} (h : asOne agg cs = some v) (hr : AVreps w S m cap ob cs us) :
    AVrep w S m cap ob v (if agg then .agg us.toArray else us.headD undef) ∧ (agg = false → ∃ u, us = [u]) := by
  unfold asOne at h
  cases agg
  · simp only [Bool.false_eq_true, if_false] at h ⊢
    split at h
    · cases h
      unfold AVreps at hr
      obtain ⟨u, us', rfl, h2, h3⟩ := hr
      unfold AVreps at h3
      subst h3
      exact ⟨h2, fun _ => ⟨u, rfl⟩⟩
    · cases h
  · simp only [if_true] at h ⊢
    cases h
    exact ⟨by unfold AVrep; exact ⟨us, rfl, hr⟩, fun e => by cases e⟩

theorem holds_cells {b : Nat} {arr : Array Value} {ty : TypeId} {fr : Nat × Nat} (h : w.heap[b]? = some (.cells arr ty fr)) (j n : Nat) : Holds w b j ((arr.toList.drop j).take n) := by
  intro k u hu
  unfold World.cell?
  simp only [h]
  rw [List.getElem?_take] at hu
  split at hu
  · rw [List.getElem?_drop] at hu
    simpa using hu
  · cases hu

theorem loadA_ok {agg : Bool} {size : Nat} {x v : AV} {u : Value} (h : RelAt w0 S0 own N m cap S st a w) (hu : AVrep w S m cap st.ob x u) (hv : loadA st agg size x = some v) :
    ∃ b off us, u = .pointer (some ⟨b, off, none⟩) ∧ us.length = size ∧ Holds w b off us ∧ AVrep w S m cap st.ob v (if agg then .agg us.toArray else us.headD undef) ∧ (agg = false → ∃ u, us = [u]) := by
  unfold loadA at hv
  have rows : ∀ (id : Id) (i j sz : Nat) (es : List (List T)) (e : List T), OwnRow w S (m id) sz es (cap id) → es[i]? = some e → j + size ≤ e.length → asOne agg (((e.drop j).take size).map .t) = some v →
      ∃ us, us.length = size ∧ Holds w (m id) (i * sz + j) us ∧ AVrep w S m cap st.ob v (if agg then .agg us.toArray else us.headD undef) ∧ (agg = false → ∃ u, us = [u]) := by
    intro id i j sz es e ho he hj has
    obtain ⟨_, _, _, hE⟩ := ho
    obtain ⟨g1, g2⟩ := hE.get he
    obtain ⟨us, k1, k2, k3⟩ := ((g2.drop j).take size).vals (m := m) (cap := cap) (ob := st.ob)
    obtain ⟨r1, r2⟩ := asOne_rep has k3
    refine ⟨us, ?_, ?_, r1, r2⟩
    · rw [k1, List.length_take, List.length_drop]; omega
    · rw [show i * sz + j = 0 + i * sz + j by omega]; exact k2
  split at hv
  · rename_i id i j
    unfold AVrep at hu
    obtain ⟨ad, hu1, hu2, hu3⟩ := hu
    split at hv
    · rename_i cs ho
      split at hv
      · rename_i hc
        obtain ⟨hi, hj⟩ := hc
        have had := hu2 cs ho hi
        obtain ⟨⟨arr, ty, k1, k2⟩, _⟩ := h.obs id _ ho
        obtain ⟨r1, r2⟩ := asOne_rep hv ((k2.drop j).take size)
        have hlen := k2.len
        refine ⟨m id, j, _, by rw [hu1, had], ?_, holds_cells k1 j size, r1, r2⟩
        rw [List.length_take, List.length_drop]; omega
      · cases hv
    · rename_i sz es ho
      split at hv
      · rename_i e he
        split at hv
        · rename_i hj
          have hlt := (List.getElem?_eq_some_iff.1 he).1
          have had := hu3 _ _ (.inl ho) hlt
          obtain ⟨us, q1, q2, q3, q4⟩ := rows id i j _ es e (h.obs id _ ho).1 he hj hv
          exact ⟨m id, _, us, by rw [hu1, had], q1, q2, q3, q4⟩
        · cases hv
      · cases hv
    · rename_i sz es ho
      split at hv
      · rename_i e he
        split at hv
        · rename_i hj
          have hlt := (List.getElem?_eq_some_iff.1 he).1
          have had := hu3 _ _ (.inr ho) hlt
          obtain ⟨us, q1, q2, q3, q4⟩ := rows id i j _ es e (h.obs id _ ho).1 he hj hv
          exact ⟨m id, _, us, by rw [hu1, had], q1, q2, q3, q4⟩
        · cases hv
      · cases hv
    · cases hv
  · rename_i cs
    unfold AVrep at hu
    obtain ⟨b, off, hu1, hu2, hu3⟩ := hu
    split at hv
    · rename_i hsz
      obtain ⟨us, k1, k2, k3⟩ := (hu3.take size).vals (m := m) (cap := cap) (ob := st.ob)
      obtain ⟨r1, r2⟩ := asOne_rep hv k3
      refine ⟨b, off, us, hu1, ?_, k2, r1, r2⟩
      rw [k1, List.length_take]; omega
    · cases hv
  · cases hv

theorem still_load {o : Oper} {t : TypeId} {x : Operand} (ho : o.op = .load t x) (h : RelAt w0 S0 own N m cap S st a w) {i : TI} (ht : tinf P t = some i) {v : AV} (hv : loadA st i.agg i.size (st.ev x) = some v) :
    ∃ u, Still P o a w u ∧ AVrep w S m cap st.ob v u := by
  obtain ⟨b, off, us, h1, h2, h3, h4, h5⟩ := loadA_ok h (h.ev x) hv
  refine ⟨_, ?_, h4⟩
  simp [Still, execOp, ho, h1, run_loadAt ht b off us h2 h3 h5]

end Cal
