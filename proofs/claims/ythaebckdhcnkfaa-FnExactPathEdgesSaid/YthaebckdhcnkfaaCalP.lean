/- A calculus of our own, fifteenth part: appends: the model does what the evaluator says. No program is named here. -/
import Derived.Test.YthaebckdhcnkfaaCalO
set_option linter.unusedSimpArgs false
set_option linter.unusedVariables false
namespace Cal
open Go Go.RowKit

variable {P : Program} {w0 w : World} {S0 S : Nat → Prop} {own : List Nat} {N : Nat} {m cap : Id → Nat} {st : St} {a : Act}

theorem single_one {u : Value} (h : Single u) : u.oneCell' = true := by
  cases u <;> first | rfl | exact absurd rfl (h.1 _) | exact absurd rfl (h.2 _)

/-- What is appended: its length, its cells, and what they stand for wherever they lie. -/
theorem elems_move (h : RelAt w0 S0 own N m cap S st a w) {size : Nat} {y : AV} {u : Value} (hu : AVrep w S m cap st.ob y u) {es : List (List T)} (hy : elemsA st size y = some es) :
    ∃ A c us, u = .slice A es.length c ∧ us.length = es.length * size ∧ (∀ v ∈ us, Single v) ∧ (0 < es.length → ∃ b off, A = some ⟨b, off, none⟩ ∧ Holds w b off us) ∧
      ∀ (w' : World) (b' off' : Nat), Same S w w' → Holds w' b' off' us → Ereps w' S b' off' size es := by
  unfold elemsA at hy
  have row : ∀ (id : Id) (sz i n : Nat) (fs : List (List T)), sz = size → (st.ob id = some (.row sz fs) ∨ st.ob id = some (.frz sz fs)) → y = .row id sz i n → es = window fs i n → ∃ A c us, u = .slice A es.length c ∧ us.length = es.length * size ∧ (∀ v ∈ us, Single v) ∧ (0 < es.length → ∃ b off, A = some ⟨b, off, none⟩ ∧ Holds w b off us) ∧
      ∀ (w' : World) (b' off' : Nat), Same S w w' → Holds w' b' off' us → Ereps w' S b' off' size es := by
    rintro id sz i n fs rfl ho rfl rfl
    have hrow : OwnRow w S (m id) sz fs (cap id) := by
      rcases ho with ho | ho
      · exact (h.obs id _ ho).1
      · exact (h.obs id _ ho).1
    unfold AVrep at hu
    obtain ⟨A, c, h1, h2, h3, h4, _, h5⟩ := hu
    obtain ⟨_, g2, g3, g4, g5⟩ := h5 sz fs ho
    have hwl : (window fs i n).length = n := by unfold window; rw [List.length_take, List.length_drop]; omega
    have hE : Ereps w S (m id) (i * sz) sz (window fs i n) := by
      have := (hrow.2.2.2.drop i).take n
      rw [Nat.zero_add] at this
      exact this
    obtain ⟨us, k1, k2, k3, k4⟩ := hE.move
    refine ⟨A, c, us, by rw [hwl]; exact h1, k1, k3, fun hn => ?_, k4⟩
    rw [hwl] at hn
    exact ⟨m id, i * sz, g4 (by omega), k2⟩
  split at hy
  · cases hy
    obtain ⟨hu, _⟩ := AVrep_v_inv hu
    exact ⟨none, 0, [], by simpa using hu, by simp, by simp, by simp, fun _ _ _ _ _ => by unfold Ereps; trivial⟩
  · rename_i fs
    split at hy
    · rename_i hsz
      cases hy
      unfold AVrep Trep at hu
      obtain ⟨A, n, c, h1, h2, h3, h4, h5⟩ := hu
      subst h2
      by_cases hn : 0 < es.length
      · obtain ⟨b, off, sz, rfl, hS, hE⟩ := h5 hn
        obtain ⟨us, k1, k2, k3, k4⟩ := hE.move
        have hszz : sz = size := by
          have e0 := hE.get (i := 0) (e := es[0]) (List.getElem?_eq_getElem hn)
          have := List.all_eq_true.1 hsz es[0] (List.getElem_mem _)
          simp at this
          omega
        subst hszz
        exact ⟨_, c, us, h1, k1, k3, fun _ => ⟨b, off, rfl, k2⟩, k4⟩
      · have : es = [] := List.length_eq_zero_iff.1 (by omega)
        subst this
        exact ⟨A, c, [], h1, by simp, by simp, by simp, fun _ _ _ _ _ => by unfold Ereps; trivial⟩
    · cases hy
  · rename_i id sz i n
    split at hy
    · rename_i hsz
      split at hy
      · rename_i sz' fs ho
        have hss : sz' = sz := by
          unfold AVrep at hu
          obtain ⟨_, _, _, _, _, _, _, h5⟩ := hu
          exact (h5 _ _ (.inl ho)).1
        subst hss
        cases hy
        exact row id _ i n fs hsz (.inl ho) rfl rfl
      · rename_i sz' fs ho
        have hss : sz' = sz := by
          unfold AVrep at hu
          obtain ⟨_, _, _, _, _, _, _, h5⟩ := hu
          exact (h5 _ _ (.inr ho)).1
        subst hss
        cases hy
        exact row id _ i n fs hsz (.inr ho) rfl rfl
      · cases hy
    · cases hy
  · cases hy

/-- Where there is room. -/
theorem run_room {t e : TypeId} {i : TI} (ht : P.underlying t = some (.slice e)) (hi : tinf P e = some i) {b n c k : Nat} {ty : TypeId} {arr : Array Value} (hb : w.heap[b]? = some (.cells arr ty (0, 0))) (hroom : n + k ≤ c) (hc : c * i.size ≤ arr.size)
    {A : Option Addr} {c' : Nat} {us : List Value} (hl : us.length = k * i.size) (hA : 0 < k → ∃ b' off, A = some ⟨b', off, none⟩ ∧ Holds w b' off us) (h1 : ∀ v ∈ us, Single v) (rt : TypeId) :
    ∃ w', (Builtin.append_ #[t, t] rt #[.slice (some ⟨b, 0, none⟩) n c, .slice A k c']).run P w = .ok (.slice (some ⟨b, 0, none⟩) (n + k) c) w' ∧ w'.heap[b]? = some (.cells (putAll arr (n * i.size) us) ty (0, 0)) ∧ (∀ j, j ≠ b → w'.heap[j]? = w.heap[j]?) ∧
      w'.os = w.os ∧ w'.tape = w.tape ∧ w'.output = w.output ∧ w'.heap.size = w.heap.size := by
  obtain ⟨inf, d, z, q1, q2, q3, q4, q5, q6, q7⟩ := tinf_inv hi
  have hle : n * i.size + us.length ≤ arr.size := by
    rw [hl, ← Nat.add_mul]
    exact Nat.le_trans (Nat.mul_le_mul_right _ hroom) hc
  obtain ⟨w', g1, g2⟩ := run_storeFrom (P := P) (n * i.size) us 0 w arr hb (by simpa using hle) h1
  refine ⟨w', ?_, by simpa using g2⟩
  have hfirst : (Builtin.firstCells inf.size k (.slice A k c')).run P w = .ok us.toArray w := by
    by_cases hk : 0 < k
    · obtain ⟨b', off, rfl, hh⟩ := hA hk
      have := run_loadFrom (P := P) b' off us 0 #[] (by simpa using hh)
      rw [hl, q5] at this
      simpa [Builtin.firstCells, loadCells] using this
    · have hk0 : k = 0 := by omega
      subst hk0
      have : us = [] := List.length_eq_zero_iff.1 (by omega)
      subst this
      cases A <;> simp [Builtin.firstCells, loadCells, loadCellsFrom]
  simp only [q5] at g1
  simp [Builtin.append_, run_underlying ht, Go.sizeOf, typeInfo, q1, Builtin.lenOf, hroom, hfirst, add_none, g1]

end Cal
