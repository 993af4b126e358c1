/- A part of the proof: a calculus of our own over the model's code, and contracts of the program's functions. -/
import Derived.Maps.AppendAt
import Derived.ArgAppend
import Derived.Test.YthiflnpbamlinaaG4
/- A calculus of our own, fourteenth part: slice literals and appends. No program is named here. -/
set_option linter.unusedSimpArgs false
set_option linter.unusedVariables false
namespace Cal
open Go Go.RowKit

variable {P : Program} {w0 w : World} {S0 S : Nat → Prop} {own : List Nat} {X : Nat → Value} {N : Nat} {m cap : Id → Nat} {st : St} {a : Act}

/-- Values that stand for cells wherever they lie. -/
theorem Creps.move {b : Nat} : ∀ {off : Nat} {xs : List T}, Creps w S b off xs → ∃ us : List Value, us.length = xs.length ∧ Holds w b off us ∧ (∀ u ∈ us, Single u) ∧
    ∀ (w' : World) (b' off' : Nat), Same S w w' → Holds w' b' off' us → Creps w' S b' off' xs
  | off, [], _ => ⟨[], rfl, fun j u h => by simp at h, by simp, fun _ _ _ _ _ => by unfold Creps; trivial⟩
  | off, x :: xs, h => by
    unfold Creps at h
    obtain ⟨⟨u, h1, h2⟩, h3⟩ := h
    obtain ⟨us, g1, g2, g3, g4⟩ := Creps.move h3
    refine ⟨u :: us, by simp [g1], fun j v hv => ?_, fun v hv => ?_, fun w' b' off' hs hh => ?_⟩
    · cases j with
      | zero => simp at hv; subst hv; exact h1
      | succ j =>
        have := g2 j v (by simpa using hv)
        rw [show off + (j + 1) = off + 1 + j by omega]; exact this
    · rcases List.mem_cons.1 hv with rfl | hv
      · exact Trep_single h2
      · exact g3 v hv
    · unfold Creps
      refine ⟨⟨u, hh 0 u rfl, Trep.keep hs (fun _ hb => hb) x u h2⟩, g4 w' b' (off' + 1) hs fun j v hv => ?_⟩
      have := hh (j + 1) v (by simpa using hv)
      rw [show off' + 1 + j = off' + (j + 1) by omega]; exact this

theorem Holds.split {w : World} {b off : Nat} {us vs : List Value} (h : Holds w b off (us ++ vs)) : Holds w b off us ∧ Holds w b (off + us.length) vs := by
  constructor
  · intro j u hu
    exact h j u (by rw [List.getElem?_append_left (List.getElem?_eq_some_iff.1 hu).1]; exact hu)
  · intro j u hu
    have := h (us.length + j) u (by rw [List.getElem?_append_right (by omega)]; simpa using hu)
    rw [show off + us.length + j = off + (us.length + j) by omega]; exact this

theorem Holds.join {w : World} {b off : Nat} {us vs : List Value} (h : Holds w b off us) (k : Holds w b (off + us.length) vs) : Holds w b off (us ++ vs) := by
  intro j u hu
  by_cases hj : j < us.length
  · exact h j u (by rwa [List.getElem?_append_left hj] at hu)
  · rw [List.getElem?_append_right (by omega)] at hu
    have := k (j - us.length) u hu
    rw [show off + us.length + (j - us.length) = off + j by omega] at this
    exact this

theorem Ereps.move {b : Nat} : ∀ {off sz : Nat} {es : List (List T)}, Ereps w S b off sz es → ∃ us : List Value, us.length = es.length * sz ∧ Holds w b off us ∧ (∀ u ∈ us, Single u) ∧
    ∀ (w' : World) (b' off' : Nat), Same S w w' → Holds w' b' off' us → Ereps w' S b' off' sz es
  | off, sz, [], _ => ⟨[], by simp, fun j u h => by simp at h, by simp, fun _ _ _ _ _ => by unfold Ereps; trivial⟩
  | off, sz, e :: es, h => by
    unfold Ereps at h
    obtain ⟨h0, h1, h2⟩ := h
    obtain ⟨us, g1, g2, g3, g4⟩ := h1.move
    obtain ⟨vs, k1, k2, k3, k4⟩ := Ereps.move h2
    have hl : us.length = sz := by rw [g1, h0]
    refine ⟨us ++ vs, by simp [hl, k1, Nat.succ_mul]; omega, g2.join (by rw [hl]; exact k2), fun u hu => ?_, fun w' b' off' hs hh => ?_⟩
    · rcases List.mem_append.1 hu with hu | hu
      · exact g3 u hu
      · exact k3 u hu
    · obtain ⟨q1, q2⟩ := hh.split
      unfold Ereps
      exact ⟨h0, g4 w' b' off' hs q1, k4 w' b' (off' + sz) hs (by rw [← hl]; exact q2)⟩

/-- An object goes. -/
theorem RelAt.drop (h : RelAt w0 S0 own X N m cap S st a w) (id : Id) : RelAt w0 S0 own X N m cap S (st.setOb id none) a w := by
  have ht : Turn (fun _ => False) m m cap cap st.ob (st.setOb id none).ob := by
    refine ⟨fun i _ => ?_, fun i _ => ⟨rfl, rfl⟩⟩
    by_cases e : i = id
    · subst e; simp only [St.setOb, if_true]; exact Ob.leads_none _
    · simp only [St.setOb, if_neg e]; exact Ob.leads_refl _
  have hl : ∀ i o, (st.setOb id none).ob i = some o → st.ob i = some o := fun i o hi => by
    by_cases e : i = id
    · subst e; simp [St.setOb] at hi
    · simpa only [St.setOb, if_neg e] using hi
  refine ⟨h.size, h.defers, h.after, h.stab, h.base, h.fresh, fun i o hi => ?_, fun i o hi => h.mine i o (hl i o hi), fun i j hi hj he => ?_, fun t => ?_, fun t => ?_⟩
  · exact (h.obs i o (hl i o hi)).keep (Same.refl _ _) (fun _ hb => hb) ht (fun hx => hx) (AV.frees_false _) rfl (fun hx => hx)
  · obtain ⟨o1, h1⟩ := Option.ne_none_iff_exists'.1 hi
    obtain ⟨o2, h2⟩ := Option.ne_none_iff_exists'.1 hj
    exact h.inj i j (by rw [hl i o1 h1]; simp) (by rw [hl j o2 h2]; simp) he
  · exact AVrep.keep (Same.refl _ _) (fun _ hb => hb) ht _ _ (AV.free_false _) (h.tm t)
  · exact AVrep.keep (Same.refl _ _) (fun _ hb => hb) ht _ _ (AV.free_false _) (h.gh t)

/-- A new object in a block that no other has: a new one, or one that has been left. -/
theorem RelAt.newAt {w' : World} (h : RelAt w0 S0 own X N m cap S st a w) {id : Id} (hf : st.Free (· = id)) {o : Ob} {g c : Nat} (hg : ∀ i o', st.ob i = some o' → m i ≠ g) (hS : ¬ S g) (hm : w0.heap.size ≤ g ∨ g ∈ own)
    (hk : ∀ k, k < w.heap.size → k ≠ g → w'.heap[k]? = w.heap[k]?) (h1 : w'.os = w.os) (h2 : w'.tape = w.tape) (h3 : w'.output = w.output) (h4 : w.heap.size ≤ w'.heap.size)
    (ho : ObRep w' S (upd m id g) (upd cap id c) (st.setOb id (some o)).ob id o) : RelAt w0 S0 own X N (upd m id g) (upd cap id c) S (st.setOb id (some o)) a w' := by
  have hn := hf.none id rfl
  have hsame : Same S w w' := fun b hb => hk b (h.stab b hb) fun e => hS (e ▸ hb)
  have ht : Turn (· = id) m (upd m id g) cap (upd cap id c) st.ob (st.setOb id (some o)).ob :=
    ⟨fun i hi => by simp only [St.setOb, if_neg hi]; exact Ob.leads_refl _, fun i hi => by simp [upd, hi]⟩
  have hlt : ∀ i o', st.ob i = some o' → m i < w.heap.size := fun i o' hi => (h.obs i o' hi).lt
  refine ⟨h.size, h.defers, ⟨h.after.fix, h1.trans h.after.os, h2.trans h.after.tape, h3.trans h.after.output, Nat.le_trans h.after.size h4, fun k hkk hno => ?_⟩, fun b hb => Nat.lt_of_lt_of_le (h.stab b hb) h4, h.base, h.fresh, fun i o' hi => ?_, fun i o' hi => ?_, fun i j hi hj he => ?_, fun t => ?_, fun t => ?_⟩
  · rw [hk k (Nat.lt_of_lt_of_le hkk h.after.size) fun e => ?_]
    · exact h.after.block k hkk hno
    · rcases hm with hm | hm
      · omega
      · exact hno (e ▸ hm)
  · by_cases e : i = id
    · subst e
      simp only [St.setOb, if_true] at hi
      cases hi
      exact ho
    · simp only [St.setOb, if_neg e] at hi
      exact (h.obs i o' hi).keep hsame (fun _ hb => hb) ht e (hf.avs i o' hi) (hk _ (hlt i o' hi) (hg i o' hi)) (fun hx => hx)
  · by_cases e : i = id
    · subst e
      simp only [upd, if_true]
      exact hm
    · simp only [St.setOb, if_neg e] at hi
      simp only [upd, if_neg e]
      exact h.mine i o' hi
  · by_cases e : i = id <;> by_cases e' : j = id
    · rw [e, e']
    · subst e
      simp only [upd, if_true, if_neg e'] at he
      simp only [St.setOb, if_neg e'] at hj
      obtain ⟨o', ho'⟩ := Option.ne_none_iff_exists'.1 hj
      exact absurd he.symm (hg j o' ho')
    · subst e'
      simp only [upd, if_true, if_neg e] at he
      simp only [St.setOb, if_neg e] at hi
      obtain ⟨o', ho'⟩ := Option.ne_none_iff_exists'.1 hi
      exact absurd he (hg i o' ho')
    · simp only [upd, if_neg e, if_neg e'] at he
      simp only [St.setOb, if_neg e] at hi
      simp only [St.setOb, if_neg e'] at hj
      exact h.inj i j hi hj he
  · exact AVrep.keep hsame (fun _ hb => hb) ht _ _ (hf.tm t) (h.tm t)
  · exact AVrep.keep hsame (fun _ hb => hb) ht _ _ (hf.gh t) (h.gh t)

/-- The value of a whole own row. -/
theorem AVrep_row {ob : Id → Option Ob} {id : Id} {sz : Nat} {es : List (List T)} (ho : ob id = some (.row sz es)) (hn : es.length ≤ cap id) (hc : cap id ≤ maxLen) :
    AVrep w S m cap ob (.row id sz 0 es.length) (.slice (some ⟨m id, 0, none⟩) es.length (cap id)) := by
  unfold AVrep
  refine ⟨_, _, rfl, hn, hc, fun _ => ⟨_, rfl⟩, (fun o ho' => by rw [ho] at ho'; cases ho'; simp [Ob.ext]), fun sz' l hes => ?_⟩
  rw [ho] at hes
  cases hes
  exact ⟨rfl, by omega, by omega, fun _ => by simp, fun _ => ⟨rfl, rfl⟩⟩

end Cal

/- A calculus of our own, fifteenth part: appends: the model does what the evaluator says. No program is named here. -/
set_option linter.unusedSimpArgs false
set_option linter.unusedVariables false
namespace Cal
open Go Go.RowKit

variable {P : Program} {w0 w : World} {S0 S : Nat → Prop} {own : List Nat} {X : Nat → Value} {N : Nat} {m cap : Id → Nat} {st : St} {a : Act}

theorem single_one {u : Value} (h : Single u) : u.oneCell' = true := by
  cases u <;> first | rfl | exact absurd rfl (h.1 _) | exact absurd rfl (h.2 _)

/-- What is appended: its length, its cells, and what they stand for wherever they lie. -/
theorem elems_move (h : RelAt w0 S0 own X N m cap S st a w) {size : Nat} {y : AV} {u : Value} (hu : AVrep w S m cap st.ob y u) {es : List (List T)} (hy : elemsA st size y = some es) :
    ∃ A c us, u = .slice A es.length c ∧ us.length = es.length * size ∧ (∀ v ∈ us, Single v) ∧ (0 < es.length → ∃ b off, A = some ⟨b, off, none⟩ ∧ Holds w b off us) ∧
      ∀ (w' : World) (b' off' : Nat), Same S w w' → Holds w' b' off' us → Ereps w' S b' off' size es := by
  unfold elemsA at hy
  have row : ∀ (id : Id) (sz i n : Nat) (fs : List (List T)), sz = size → (st.ob id = some (.row sz fs) ∨ st.ob id = some (.frz sz fs)) → y = .row id sz i n → es = window fs i n → ∃ A c us, u = .slice A es.length c ∧ us.length = es.length * size ∧ (∀ v ∈ us, Single v) ∧ (0 < es.length → ∃ b off, A = some ⟨b, off, none⟩ ∧ Holds w b off us) ∧
      ∀ (w' : World) (b' off' : Nat), Same S w w' → Holds w' b' off' us → Ereps w' S b' off' size es := by
    rintro id sz i n fs rfl ho rfl rfl
    have hrow : OwnRow w S (m id) sz fs (cap id) := by
      rcases ho with ho | ho
      · exact (h.obs id _ ho).1
      · exact (h.obs id _ ho).1
    unfold AVrep at hu
    obtain ⟨A, c, h1, h2, h3, h4, _, h5⟩ := hu
    obtain ⟨_, g2, g3, g4, g5⟩ := h5 sz fs.length (by rcases ho with ho | ho <;> rw [ho] <;> rfl)
    have hwl : (window fs i n).length = n := by unfold window; rw [List.length_take, List.length_drop]; omega
    have hE : Ereps w S (m id) (i * sz) sz (window fs i n) := by
      have := (hrow.2.2.2.drop i).take n
      rw [Nat.zero_add] at this
      exact this
    obtain ⟨us, k1, k2, k3, k4⟩ := hE.move
    refine ⟨A, c, us, by rw [hwl]; exact h1, k1, k3, fun hn => ?_, k4⟩
    rw [hwl] at hn
    exact ⟨m id, i * sz, g4 (by omega), k2⟩
  split at hy
  · cases hy
    obtain ⟨hu, _⟩ := AVrep_v_inv hu
    exact ⟨none, 0, [], by simpa using hu, by simp, by simp, by simp, fun _ _ _ _ _ => by unfold Ereps; trivial⟩
  · rename_i fs
    split at hy
    · rename_i hsz
      cases hy
      unfold AVrep Trep at hu
      obtain ⟨A, n, c, h1, h2, h3, h4, h5⟩ := hu
      subst h2
      by_cases hn : 0 < es.length
      · obtain ⟨b, off, sz, rfl, hS, hE⟩ := h5 hn
        obtain ⟨us, k1, k2, k3, k4⟩ := hE.move
        have hszz : sz = size := by
          have e0 := hE.get (i := 0) (e := es[0]) (List.getElem?_eq_getElem hn)
          have := List.all_eq_true.1 hsz es[0] (List.getElem_mem _)
          simp at this
          omega
        subst hszz
        exact ⟨_, c, us, h1, k1, k3, fun _ => ⟨b, off, rfl, k2⟩, k4⟩
      · have : es = [] := List.length_eq_zero_iff.1 (by omega)
        subst this
        exact ⟨A, c, [], h1, by simp, by simp, by simp, fun _ _ _ _ _ => by unfold Ereps; trivial⟩
    · cases hy
  · rename_i id sz i n
    split at hy
    · rename_i hsz
      split at hy
      · rename_i sz' fs ho
        have hss : sz' = sz := by
          unfold AVrep at hu
          obtain ⟨_, _, _, _, _, _, _, h5⟩ := hu
          exact (h5 _ _ (by rw [ho]; rfl)).1
        subst hss
        cases hy
        exact row id _ i n fs hsz (.inl ho) rfl rfl
      · rename_i sz' fs ho
        have hss : sz' = sz := by
          unfold AVrep at hu
          obtain ⟨_, _, _, _, _, _, _, h5⟩ := hu
          exact (h5 _ _ (by rw [ho]; rfl)).1
        subst hss
        cases hy
        exact row id _ i n fs hsz (.inr ho) rfl rfl
      · cases hy
    · cases hy
  · cases hy

/-- Where there is room. -/
theorem run_room {t e : TypeId} {i : TI} (ht : P.underlying t = some (.slice e)) (hi : tinf P e = some i) {b n c k : Nat} {ty : TypeId} {arr : Array Value} (hb : w.heap[b]? = some (.cells arr ty (0, 0))) (hroom : n + k ≤ c) (hc : c * i.size ≤ arr.size)
    {A : Option Addr} {c' : Nat} {us : List Value} (hl : us.length = k * i.size) (hA : 0 < k → ∃ b' off, A = some ⟨b', off, none⟩ ∧ Holds w b' off us) (h1 : ∀ v ∈ us, Single v) (rt : TypeId) :
    ∃ w', (Builtin.append_ #[t, t] rt #[.slice (some ⟨b, 0, none⟩) n c, .slice A k c']).run P w = .ok (.slice (some ⟨b, 0, none⟩) (n + k) c) w' ∧ w'.heap[b]? = some (.cells (putAll arr (n * i.size) us) ty (0, 0)) ∧ (∀ j, j ≠ b → w'.heap[j]? = w.heap[j]?) ∧
      w'.os = w.os ∧ w'.tape = w.tape ∧ w'.output = w.output ∧ w'.heap.size = w.heap.size := by
  obtain ⟨inf, d, z, q1, q2, q3, q4, q5, q6, q7⟩ := tinf_inv hi
  have hle : n * i.size + us.length ≤ arr.size := by
    rw [hl, ← Nat.add_mul]
    exact Nat.le_trans (Nat.mul_le_mul_right _ hroom) hc
  obtain ⟨w', g1, g2⟩ := run_storeFrom (P := P) (n * i.size) us 0 w arr hb (by simpa using hle) h1
  refine ⟨w', ?_, by simpa using g2⟩
  have hfirst : (Builtin.firstCells inf.size k (.slice A k c')).run P w = .ok us.toArray w := by
    by_cases hk : 0 < k
    · obtain ⟨b', off, rfl, hh⟩ := hA hk
      have := run_loadFrom (P := P) b' off us 0 #[] (by simpa using hh)
      rw [hl, q5] at this
      simpa [Builtin.firstCells, loadCells] using this
    · have hk0 : k = 0 := by omega
      subst hk0
      have : us = [] := List.length_eq_zero_iff.1 (by omega)
      subst this
      cases A <;> simp [Builtin.firstCells, loadCells, loadCellsFrom]
  simp only [q5] at g1
  simp [Builtin.append_, run_underlying ht, Go.sizeOf, typeInfo, q1, Builtin.lenOf, hroom, hfirst, add_none, g1]

end Cal

/- A calculus of our own, sixteenth part: the append. No program is named here. -/
set_option linter.unusedSimpArgs false
set_option linter.unusedVariables false
namespace Cal
open Go Go.RowKit

variable {P : Program} {w0 w : World} {S0 S : Nat → Prop} {own : List Nat} {X : Nat → Value} {N : Nat} {m cap : Id → Nat} {st : St} {a : Act}

theorem holds_take {w' : World} {g : Nat} {cur : Array Value} {ty : TypeId} {fr : Nat × Nat} (h : w'.heap[g]? = some (.cells cur ty fr)) {n : Nat} {us : List Value} (hu : cur.toList.take n = us) : Holds w' g 0 us := by
  intro j u hj
  have := holds_cells h 0 n j u (by simpa [hu] using hj)
  simpa using this

/-- A new row in a block of its own. -/
theorem RelAt.newRow {w' : World} (h : RelAt w0 S0 own X N m cap S st a w) {d : Nat} (hf : st.Free (· = (d, 0))) {g c sz : Nat} {es : List (List T)} {cur : Array Value} {ty : TypeId}
    (hg : ∀ i o', st.ob i = some o' → m i ≠ g) (hS : ¬ S g) (hm : w0.heap.size ≤ g ∨ g ∈ own) (hk : ∀ k, k < w.heap.size → k ≠ g → w'.heap[k]? = w.heap[k]?) (h1 : w'.os = w.os) (h2 : w'.tape = w.tape) (h3 : w'.output = w.output) (h4 : w.heap.size ≤ w'.heap.size)
    (hb : w'.heap[g]? = some (.cells cur ty (0, 0))) (hsz : cur.size = c * sz) (hn : es.length ≤ c) (hc : c ≤ maxLen) (hE : Ereps w' S g 0 sz es) :
    RelAt w0 S0 own X N (upd m (d, 0) g) (upd cap (d, 0) c) S (st.setOb (d, 0) (some (.row sz es))) a w' ∧
    AVrep w' S (upd m (d, 0) g) (upd cap (d, 0) c) (st.setOb (d, 0) (some (.row sz es))).ob (.row (d, 0) sz 0 es.length) (.slice (some ⟨g, 0, none⟩) es.length c) := by
  refine ⟨h.newAt hf hg hS hm hk h1 h2 h3 h4 ⟨⟨⟨cur, ty, by rw [upd_same]; exact hb, by rw [upd_same]; exact hsz⟩, by rw [upd_same]; exact hn, by rw [upd_same]; exact hc, by rw [upd_same]; exact hE⟩, by rw [upd_same]; exact hS⟩, ?_⟩
  have := AVrep_row (w := w') (S := S) (m := upd m (d, 0) g) (cap := upd cap (d, 0) c) (ob := (st.setOb (d, 0) (some (.row sz es))).ob) (id := (d, 0)) (sz := sz) (es := es) (by simp [St.setOb]) (by rw [upd_same]; exact hn) (by rw [upd_same]; exact hc)
  rw [upd_same, upd_same] at this
  exact this

theorem fine_inv {i : TI} (h : ¬ i.fine = false) : i.zero.length = i.size ∧ 0 < i.size ∧ 0 < i.bytes := by
  simp only [TI.fine, Bool.not_eq_false, Bool.and_eq_true, beq_iff_eq, decide_eq_true_eq] at h
  exact ⟨h.1.1, h.1.2, h.2⟩

theorem gives_append {o : Oper} {t e : TypeId} {x y : Operand} {i : TI} (ho : o.op = .call ⟨.builtin .append, #[x, y], #[t, t]⟩) (h : RelAt w0 S0 own X N m cap S st a w) (hel : elemOf P t = some (e, i)) {d : Nat} (hf : st.Free (·.1 = d))
    {es : List (List T)} (hy : elemsA st i.size (st.ev y) = some es) {v : AV} {f : Eff} (hv : appendA d st i (st.ev x) es = some (v, f)) :
    ∃ u w' m' cap', Gives P o a w u w' ∧ RelAt w0 S0 own X N m' cap' S (st.eff f) a w' ∧ AVrep w' S m' cap' (st.eff f).ob v u ∧ Far d m m' cap cap' := by
  obtain ⟨ht, hi⟩ := elemOf_inv hel
  obtain ⟨inf, dd, z, q1, q2, q3, q4, q5, q6, q7⟩ := tinf_inv hi
  obtain ⟨A, c', us, e1, e2, e3, e4, e5⟩ := elems_move h (h.ev y) hy
  have hx := h.ev x
  have gv : ∀ {u : Value} {w' : World}, (Builtin.append_ #[t, t] o.type #[a.eval x, a.eval y]).run P w = .ok u w' → Gives P o a w u w' := fun hr => .inl (by simp [execOp, ho, resolve, invoke, builtin, hr])
  unfold appendA at hv
  split at hv
  · cases hv
  rename_i hfine
  obtain ⟨f1, f2, f3⟩ := fine_inv hfine
  have hzs : z.cells.size = i.size := by rw [← f1, q7, Array.length_toList]
  have hsmall : ∀ n : Nat, n * i.bytes ≤ lim → n ≤ maxLen := fun n hn => by
    have : n * 1 ≤ n * i.bytes := Nat.mul_le_mul_left _ f3
    unfold lim at hn
    unfold maxLen
    omega
  have hf0 : st.Free (· = (d, 0)) := hf.mono fun id hid => by rw [hid]
  split at hv
  · rename_i hp
    rw [hp] at hx
    obtain ⟨hx, _⟩ := AVrep_v_inv hx
    split at hv
    · rename_i hb
      by_cases h0 : es.length = 0
      · rw [if_pos h0] at hv
        cases hv
        refine ⟨.slice none 0 0, w, m, cap, gv ?_, h, AVrep_v rfl, Far.refl _ _ _⟩
        rw [hx, e1, h0]
        cases A <;> simp [Builtin.append_, run_underlying ht, Go.sizeOf, typeInfo, q1, Builtin.lenOf, Builtin.firstCells, loadCells, loadCellsFrom]
      · rw [if_neg h0] at hv
        cases hv
        obtain ⟨b, off, rfl, hh⟩ := e4 (by omega)
        have hnews : ∀ j u, us[j]? = some u → w.cell? ((⟨b, off, none⟩ : Addr).add j) = some u := fun j u hj => by rw [add_none]; exact hh j u hj
        obtain ⟨v', w', r1, r2, r3, r4, r5⟩ := run_append_own_at (P := P) w w.heap.size t o.type e inf z i.size i.bytes ht q1 q3 (by rw [q5]) (by rw [q6]) hzs f2 (.slice none 0 0) 0 [] ⟨by simp, .inl ⟨rfl, rfl⟩⟩ ⟨b, off, none⟩ es.length c' us e2 hnews (fun u hu => single_one (e3 u hu)) (by rw [Nat.zero_add]; exact hsmall _ hb) (by rw [Nat.zero_add]; unfold lim at hb; exact hb) (Nat.le_refl _)
        rcases r2.2 with ⟨rfl, hz0⟩ | ⟨g, cp, cur, rfl, hge, hbl, hncap, hcm, hcs, htk⟩
        · omega
        · simp only [Nat.zero_add, List.nil_append] at hncap htk r1
          have hsame : Same S w w' := fun k hk => r3.block k (h.stab k hk) (by simp [Value.ownBlock])
          have hS : ¬ S g := fun hs => by have := h.stab g hs; omega
          obtain ⟨k1, k2⟩ := h.newRow (w' := w') hf0 (es := es) (sz := i.size) (fun i' o' hi' he => by have := (h.obs i' o' hi').lt; omega) hS (.inl (Nat.le_trans h.after.size hge)) (fun k hk _ => r3.block k hk (by simp [Value.ownBlock])) r3.os r3.tape r3.output r3.size hbl hcs hncap hcm (e5 w' g 0 hsame (holds_take hbl htk))
          exact ⟨_, w', _, _, gv (by rw [hx, e1]; exact r1), by simpa [St.eff] using k1, by simpa [St.eff] using k2, Far.upd _ _ _ _ _ _⟩
    · cases hv
  · rename_i id sz0 n hp
    rw [hp] at hx
    split at hv
    · rename_i sz fs hob
      split at hv
      · rename_i hc
        obtain ⟨hc1, hc2, hc3⟩ := hc
        subst hc1
        cases hv
        unfold AVrep at hx
        obtain ⟨A0, c, x1, x2, x3, x4, _, x5⟩ := hx
        obtain ⟨rfl, x6, x7, x8, x9⟩ := x5 _ fs.length (by rw [hob]; rfl)
        obtain ⟨rfl, rfl⟩ := x9 rfl
        obtain ⟨⟨⟨arr, ty, k1, k2⟩, k3, k4, k5⟩, k6⟩ := h.obs id _ hob
        have hd := h.drop id
        have hfd : (st.setOb id none).Free (· = (d, 0)) := by
          refine ⟨hf0.tm, hf0.gh, fun i' cs hcs => hf0.avs i' cs ?_, fun i' hi' => ?_⟩
          · by_cases e' : i' = id
            · subst e'; simp [St.setOb] at hcs
            · simpa [St.setOb, e'] using hcs
          · by_cases e' : i' = id
            · subst e'; simp [St.setOb]
            · simp only [St.setOb, if_neg e']; exact hf0.none i' hi'
        have hgone : ∀ i' o', (st.setOb id none).ob i' = some o' → st.ob i' = some o' ∧ m i' ≠ m id := fun i' o' hi' => by
          by_cases e' : i' = id
          · subst e'; simp [St.setOb] at hi'
          · have : st.ob i' = some o' := by simpa [St.setOb, e'] using hi'
            exact ⟨this, fun he => e' (h.inj i' id (by rw [this]; simp) (by rw [hob]; simp) he)⟩
        obtain ⟨vs, g1, g2, g3, g4⟩ := k5.move
        have hnl : n + es.length = (fs ++ es).length := by rw [List.length_append, hc2]
        by_cases hroom : n + es.length ≤ cap id
        · obtain ⟨w', r1, r2, r3, r4, r5, r6, r7⟩ := run_room (P := P) ht hi k1 hroom (by rw [k2]; exact Nat.le_refl _) e2 e4 e3 o.type
          have hsame : Same S w w' := fun k hk => r3 k fun e' => k6 (e' ▸ hk)
          have hH : Holds w' (m id) 0 (vs ++ us) := by
            have hlen : n * i.size + us.length ≤ arr.size := by
              rw [e2, ← Nat.add_mul, k2]
              exact Nat.mul_le_mul_right _ hroom
            intro j u hj
            unfold World.cell?
            simp only [r2, Nat.zero_add]
            rw [if_neg (by simp), putAll_get _ _ _ _ hlen]
            have hvl : vs.length = n * i.size := by rw [g1, hc2]
            by_cases hjn : j < vs.length
            · rw [List.getElem?_append_left hjn] at hj
              rw [if_neg (by omega)]
              have := g2 j u hj
              unfold World.cell? at this
              simp only [k1, Nat.zero_add] at this
              simpa using this
            · rw [List.getElem?_append_right (by omega)] at hj
              have hju := (List.getElem?_eq_some_iff.1 hj).1
              rw [if_pos (by omega)]
              rw [hvl] at hj
              exact hj
          obtain ⟨hH1, hH2⟩ := hH.split
          have hE : Ereps w' S (m id) 0 i.size (fs ++ es) := (g4 w' (m id) 0 hsame hH1).append (e5 w' (m id) _ hsame (by rw [Nat.zero_add, ← g1]; simpa using hH2))
          obtain ⟨l1, l2⟩ := hd.newRow (w' := w') hfd (es := fs ++ es) (sz := i.size) (fun i' o' hi' => (hgone i' o' hi').2) k6 (h.mine id _ hob) (fun k _ hk => r3 k hk) r4 r5 r6 (by omega) r2 (by rw [putAll_size]; exact k2) (by rw [← hnl]; exact hroom) k4 hE
          rw [← hnl] at l2
          exact ⟨_, w', _, _, gv (by rw [x1, e1]; exact r1), by simpa [St.eff] using l1, by simpa [St.eff] using l2, Far.upd _ _ _ _ _ _⟩
        · have hpos : 0 < es.length := by omega
          obtain ⟨b, off, rfl, hh⟩ := e4 hpos
          have hnews : ∀ j u, us[j]? = some u → w.cell? ((⟨b, off, none⟩ : Addr).add j) = some u := fun j u hj => by rw [add_none]; exact hh j u hj
          have holds : ∀ j u, vs[j]? = some u → w.cell? ((⟨m id, 0, none⟩ : Addr).add j) = some u := fun j u hj => by rw [add_none]; exact g2 j u hj
          obtain ⟨v', w', r1, r2, r3⟩ := run_append_arg_grows (P := P) w t o.type e inf z i.size i.bytes ht q1 q3 (by rw [q5]) (by rw [q6]) hzs f2 ⟨m id, 0, none⟩ n (cap id) vs (by rw [g1, hc2]) holds ⟨b, off, none⟩ es.length c' us e2 hnews (by omega) (hsmall _ hc3) (by unfold lim at hc3; exact hc3)
          rcases r2.2 with ⟨rfl, hz0⟩ | ⟨g, cp, cur, rfl, hge, hbl, hncap, hcm, hcs, htk⟩
          · omega
          · have hsame : Same S w w' := fun k hk => r3.block k (h.stab k hk) (by simp)
            have hS : ¬ S g := fun hs => by have := h.stab g hs; omega
            obtain ⟨hH1, hH2⟩ := (holds_take hbl htk).split
            have hE : Ereps w' S g 0 i.size (fs ++ es) := (g4 w' g 0 hsame hH1).append (e5 w' g _ hsame (by rw [Nat.zero_add, ← g1]; simpa using hH2))
            obtain ⟨l1, l2⟩ := hd.newRow (w' := w') hfd (es := fs ++ es) (sz := i.size) (fun i' o' hi' he => by have := (h.obs i' o' (hgone i' o' hi').1).lt; omega) hS (.inl (Nat.le_trans h.after.size hge)) (fun k hk _ => r3.block k hk (by simp)) r3.os r3.tape r3.output r3.size hbl hcs (by rw [← hnl]; exact hncap) hcm hE
            rw [← hnl] at l2
            exact ⟨_, w', _, _, gv (by rw [x1, e1]; exact r1), by simpa [St.eff] using l1, by simpa [St.eff] using l2, Far.upd _ _ _ _ _ _⟩
      · cases hv
    · cases hv
  · cases hv

/-! ### rows whose cells name objects -/
theorem Ereps.vals {b : Nat} {ob : Id → Option Ob} : ∀ {off sz : Nat} {es : List (List T)}, Ereps w S b off sz es → ∃ us : List Value, us.length = es.length * sz ∧ Holds w b off us ∧ (∀ u ∈ us, Single u) ∧ AVreps w S m cap ob (es.map fun e => e.map AV.t).flatten us ∧ ∀ e ∈ es, e.length = sz
  | off, sz, [], _ => ⟨[], by simp, fun j u h => by simp at h, by simp, by simp [AVreps], by simp⟩
  | off, sz, e :: es, h => by
    unfold Ereps at h
    obtain ⟨h0, h1, h2⟩ := h
    obtain ⟨us, g1, g2, g3⟩ := h1.vals (m := m) (cap := cap) (ob := ob)
    obtain ⟨vs, k1, k2, k3, k4, k5⟩ := Ereps.vals (ob := ob) h2
    have hl : us.length = sz := by rw [g1, h0]
    refine ⟨us ++ vs, by simp [hl, k1, Nat.succ_mul]; omega, g2.join (by rw [hl]; exact k2), fun u hu => ?_, ?_, fun e' he' => ?_⟩
    · rcases List.mem_append.1 hu with hu | hu
      · exact all_single g3 (List.all_eq_true.2 fun v hv => by obtain ⟨x, _, rfl⟩ := List.mem_map.1 hv; rfl) u hu
      · exact k3 u hu
    · simp only [List.map_cons, List.flatten_cons]
      rw [AVreps_iff] at g3 k4 ⊢
      refine ⟨by simp [g3.1, k4.1], fun j v u hv hu => ?_⟩
      have hle : us.length = (e.map AV.t).length := g3.1
      by_cases hj : j < us.length
      · rw [List.getElem?_append_left (by omega)] at hv hu
        exact g3.2 j v u hv hu
      · rw [List.getElem?_append_right (by omega)] at hv hu
        exact k4.2 _ v u (by rw [hle]; exact hv) hu
    · rcases List.mem_cons.1 he' with rfl | he'
      · exact h0
      · exact k5 e' he'

theorem AVreps_append2 {ob : Id → Option Ob} {xs ys : List AV} {us vs : List Value} (h : AVreps w S m cap ob xs us) (k : AVreps w S m cap ob ys vs) : AVreps w S m cap ob (xs ++ ys) (us ++ vs) := by
  rw [AVreps_iff] at h k ⊢
  refine ⟨by simp [h.1, k.1], fun j v u hv hu => ?_⟩
  by_cases hj : j < us.length
  · rw [List.getElem?_append_left (by omega)] at hv hu
    exact h.2 j v u hv hu
  · rw [List.getElem?_append_right (by omega)] at hv hu
    exact k.2 _ v u (by rw [h.1]; exact hv) hu

/-- What a slice's elements are. -/
theorem elemsB_rep (h : RelAt w0 S0 own X N m cap S st a w) {size : Nat} {y : AV} {u : Value} (hu : AVrep w S m cap st.ob y u) {es : List (List AV)} (hy : elemsB st size y = some es) :
    ∃ A c us, u = .slice A es.length c ∧ us.length = es.length * size ∧ (∀ v ∈ us, Single v) ∧ (0 < es.length → ∃ b off, A = some ⟨b, off, none⟩ ∧ Holds w b off us) ∧ AVreps w S m cap st.ob es.flatten us ∧ ∀ e ∈ es, e.length = size := by
  have plainc : ∀ ts, elemsA st size y = some ts → es = ts.map (fun e => e.map .t) → ∃ A c us, u = .slice A es.length c ∧ us.length = es.length * size ∧ (∀ v ∈ us, Single v) ∧ (0 < es.length → ∃ b off, A = some ⟨b, off, none⟩ ∧ Holds w b off us) ∧ AVreps w S m cap st.ob es.flatten us ∧ ∀ e ∈ es, e.length = size := by
    rintro ts ht rfl
    obtain ⟨A, c, us, e1, e2, e3, e4, e5⟩ := elems_move h hu ht
    by_cases hn : 0 < ts.length
    · obtain ⟨b, off, rfl, hh⟩ := e4 hn
      obtain ⟨us', k1, k2, k3, k4, k5⟩ := (e5 w b off (Same.refl _ _) hh).vals (m := m) (cap := cap) (ob := st.ob)
      have : us' = us := by
        apply List.ext_getElem?
        intro j
        by_cases hj : j < us.length
        · obtain ⟨v, hv⟩ : ∃ v, us[j]? = some v := ⟨_, List.getElem?_eq_getElem hj⟩
          obtain ⟨v', hv'⟩ : ∃ v, us'[j]? = some v := ⟨_, List.getElem?_eq_getElem (by omega)⟩
          have q1 := hh j v hv
          have q2 := k2 j v' hv'
          rw [q1] at q2
          rw [hv, hv', q2]
        · rw [List.getElem?_eq_none (by omega), List.getElem?_eq_none (by omega)]
      subst this
      refine ⟨_, c, us', by rw [List.length_map]; exact e1, by rw [List.length_map]; exact e2, e3, fun _ => ⟨b, off, rfl, hh⟩, k4, fun e he => ?_⟩
      obtain ⟨e', he', rfl⟩ := List.mem_map.1 he
      rw [List.length_map]
      exact k5 e' he'
    · have hz : ts = [] := List.length_eq_zero_iff.1 (by omega)
      subst hz
      have hz2 : us = [] := List.length_eq_zero_iff.1 (by simpa using e2)
      subst hz2
      exact ⟨A, c, [], e1, by simp, by simp, by simp, by simp [AVreps], by simp⟩
  unfold elemsB at hy
  split at hy
  · rename_i id sz i n
    split at hy
    · rename_i sz' fs ho
      split at hy
      · rename_i hsz
        subst hsz
        cases hy
        unfold AVrep at hu
        obtain ⟨A, c, h1, h2, h3, h4, _, h5⟩ := hu
        obtain ⟨e0, g2, g3, g4, g5⟩ := h5 sz' fs.length (by rw [ho]; rfl)
        subst e0
        obtain ⟨⟨⟨arr, ty, k1, k2, k3, k3'⟩, k4, k5, k6⟩, _⟩ := h.obs id _ ho
        have hal : arr.toList.length = cap id * sz' := by rw [Array.length_toList]; exact k2
        have hwl : (windowB fs i n).length = n := by unfold windowB; rw [List.length_take, List.length_drop]; omega
        have hle : fs.length * sz' ≤ cap id * sz' := Nat.mul_le_mul_right _ k5
        have hin : i * sz' + n * sz' ≤ fs.length * sz' := by rw [← Nat.add_mul]; exact Nat.mul_le_mul_right _ g2
        have hl' : ∀ e ∈ windowB fs i n, e.length = sz' := fun e he => k4 e (List.mem_of_mem_drop (List.mem_of_mem_take he))
        have hfl : (windowB fs i n).flatten = (fs.flatten.drop (i * sz')).take (n * sz') := by
          have e1 : fs.flatten = (fs.take i).flatten ++ (windowB fs i n).flatten ++ (fs.drop (i + n)).flatten := by
            unfold windowB
            rw [← List.flatten_append, ← List.flatten_append, List.append_assoc]
            congr 1
            rw [← List.drop_drop, List.take_append_drop, List.take_append_drop]
          have e2 : (fs.take i).flatten.length = i * sz' := by
            rw [flatten_len fun e he => k4 e (List.mem_of_mem_take he), List.length_take]
            congr 1
            omega
          have e3 : (windowB fs i n).flatten.length = n * sz' := by rw [flatten_len hl', hwl]
          rw [e1, List.append_assoc, ← e2, List.drop_left, ← e3, List.take_left]
        refine ⟨A, c, ((arr.toList.take (fs.length * sz')).drop (i * sz')).take (n * sz'), by rw [hwl]; exact h1, ?_, ?_, fun hn => ?_, ?_, hl'⟩
        · rw [hwl, List.length_take, List.length_drop, List.length_take, hal]
          omega
        · intro v hv
          exact k3' v (List.mem_of_mem_drop (List.mem_of_mem_take hv))
        · rw [hwl] at hn
          refine ⟨m id, i * sz', g4 (by omega), ?_⟩
          have := holds_cells k1 (i * sz') (n * sz')
          have e1 : ((arr.toList.take (fs.length * sz')).drop (i * sz')).take (n * sz') = (arr.toList.drop (i * sz')).take (n * sz') := by
            rw [List.drop_take, List.take_take]
            congr 1
            omega
          rw [e1]
          exact this
        · rw [hfl]
          exact AVreps.take (AVreps.drop k3 (i * sz')) (n * sz')
      · cases hy
    · cases he : elemsA st size (.row id sz i n) with
      | none => simp [he] at hy
      | some ts =>
        simp only [he, Option.map_some, Option.some.injEq] at hy
        exact plainc ts he hy.symm
  · cases he : elemsA st size y with
    | none => simp [he] at hy
    | some ts =>
      simp only [he, Option.map_some, Option.some.injEq] at hy
      exact plainc ts he hy.symm

/-- A new row, whose cells may name objects, in a block of its own. -/
theorem RelAt.newBig {w' : World} (h : RelAt w0 S0 own X N m cap S st a w) {d : Nat} (hf : st.Free (· = (d, 0))) {g c sz : Nat} {es : List (List AV)} {us : List Value} {cur : Array Value} {ty : TypeId}
    (hg : ∀ i o', st.ob i = some o' → m i ≠ g) (hS : ¬ S g) (hm : w0.heap.size ≤ g ∨ g ∈ own) (hk : ∀ k, k < w.heap.size → k ≠ g → w'.heap[k]? = w.heap[k]?) (h1 : w'.os = w.os) (h2 : w'.tape = w.tape) (h3 : w'.output = w.output) (h4 : w.heap.size ≤ w'.heap.size)
    (hb : w'.heap[g]? = some (.cells cur ty (0, 0))) (hsz : cur.size = c * sz) (hn : es.length ≤ c) (hc : c ≤ maxLen) (hr : AVreps w S m cap st.ob es.flatten us) (hu : cur.toList.take (es.length * sz) = us) (hl : ∀ e ∈ es, e.length = sz) (hs : ∀ u ∈ us, Single u) (hfr : AV.frees (· = (d, 0)) es.flatten) :
    RelAt w0 S0 own X N (upd m (d, 0) g) (upd cap (d, 0) c) S (st.setOb (d, 0) (some (.big sz es))) a w' ∧
    AVrep w' S (upd m (d, 0) g) (upd cap (d, 0) c) (st.setOb (d, 0) (some (.big sz es))).ob (.row (d, 0) sz 0 es.length) (.slice (some ⟨g, 0, none⟩) es.length c) := by
  have hsame : Same S w w' := fun b hb => hk b (h.stab b hb) fun e => hS (e ▸ hb)
  have ht : Turn (· = (d, 0)) m (upd m (d, 0) g) cap (upd cap (d, 0) c) st.ob (st.setOb (d, 0) (some (.big sz es))).ob :=
    ⟨fun i hi => by simp only [St.setOb, if_neg hi]; exact Ob.leads_refl _, fun i hi => by simp [upd, hi]⟩
  refine ⟨h.newAt hf hg hS hm hk h1 h2 h3 h4 ⟨⟨⟨cur, ty, by rw [upd_same]; exact hb, by rw [upd_same]; exact hsz, ?_, by rw [hu]; exact hs⟩, hl, by rw [upd_same]; exact hn, by rw [upd_same]; exact hc⟩, by rw [upd_same]; exact hS⟩, ?_⟩
  · rw [hu]
    exact AVreps.keep hsame (fun _ hb => hb) ht _ _ hfr hr
  · unfold AVrep
    refine ⟨_, _, rfl, hn, hc, fun _ => ⟨_, rfl⟩, (fun o ho' => by simp [St.setOb] at ho'; subst ho'; simp [Ob.ext]), fun sz' l hes => ?_⟩
    simp [St.setOb, Ob.ext] at hes
    obtain ⟨rfl, rfl⟩ := hes
    rw [upd_same, upd_same]
    exact ⟨rfl, by omega, by omega, fun _ => by simp, fun _ => ⟨rfl, rfl⟩⟩

theorem frees_append2 {p : Id → Prop} : ∀ {xs ys : List AV}, AV.frees p xs → AV.frees p ys → AV.frees p (xs ++ ys)
  | [], ys, _, h => h
  | x :: xs, ys, h, k => by
    unfold AV.frees at h
    simp only [List.cons_append]
    unfold AV.frees
    exact ⟨h.1, frees_append2 h.2 k⟩
theorem frees_mem {p : Id → Prop} : ∀ {xs : List AV}, (∀ x ∈ xs, x.free p) → AV.frees p xs
  | [], _ => trivial
  | x :: xs, h => by unfold AV.frees; exact ⟨h x (by simp), frees_mem fun y hy => h y (by simp [hy])⟩
theorem mem_frees {p : Id → Prop} : ∀ {xs : List AV}, AV.frees p xs → ∀ x ∈ xs, x.free p
  | [], _, x, hx => by simp at hx
  | y :: xs, h, x, hx => by
    unfold AV.frees at h
    rcases List.mem_cons.1 hx with rfl | hx
    · exact h.1
    · exact mem_frees h.2 x hx

theorem elemsB_free {p : Id → Prop} (hf : st.Free p) {size : Nat} {y : AV} {es : List (List AV)} (hy : elemsB st size y = some es) : AV.frees p es.flatten := by
  have plainc : ∀ ts : List (List T), es = ts.map (fun e => e.map .t) → AV.frees p es.flatten := by
    rintro ts rfl
    refine frees_mem fun x hx => ?_
    obtain ⟨e, he, hx⟩ := List.mem_flatten.1 hx
    obtain ⟨e', _, rfl⟩ := List.mem_map.1 he
    obtain ⟨z, _, rfl⟩ := List.mem_map.1 hx
    trivial
  unfold elemsB at hy
  split at hy
  · split at hy
    · rename_i ho
      split at hy
      · cases hy
        refine frees_mem fun x hx => ?_
        obtain ⟨e, he, hx⟩ := List.mem_flatten.1 hx
        have := hf.avs _ _ ho
        exact mem_frees this x (List.mem_flatten.2 ⟨e, List.mem_of_mem_drop (List.mem_of_mem_take he), hx⟩)
      · cases hy
    · rename_i id sz i n _ _
      cases he : elemsA st size (.row id sz i n) with
      | none => simp [he] at hy
      | some ts => simp only [he, Option.map_some, Option.some.injEq] at hy; exact plainc ts hy.symm
  · cases he : elemsA st size y with
    | none => simp [he] at hy
    | some ts => simp only [he, Option.map_some, Option.some.injEq] at hy; exact plainc ts hy.symm

theorem gives_appendB {o : Oper} {t e : TypeId} {x y : Operand} {i : TI} (ho : o.op = .call ⟨.builtin .append, #[x, y], #[t, t]⟩) (h : RelAt w0 S0 own X N m cap S st a w) (hel : elemOf P t = some (e, i)) {d : Nat} (hf : st.Free (·.1 = d))
    {es : List (List AV)} (hy : elemsB st i.size (st.ev y) = some es) {v : AV} {f : Eff} (hv : appendB d st i (st.ev x) es = some (v, f)) :
    ∃ u w' m' cap', Gives P o a w u w' ∧ RelAt w0 S0 own X N m' cap' S (st.eff f) a w' ∧ AVrep w' S m' cap' (st.eff f).ob v u ∧ Far d m m' cap cap' := by
  obtain ⟨ht, hi⟩ := elemOf_inv hel
  obtain ⟨inf, dd, z, q1, q2, q3, q4, q5, q6, q7⟩ := tinf_inv hi
  obtain ⟨A, c', us, e1, e2, e3, e4, e5, e6⟩ := elemsB_rep h (h.ev y) hy
  have hx := h.ev x
  have gv : ∀ {u : Value} {w' : World}, (Builtin.append_ #[t, t] o.type #[a.eval x, a.eval y]).run P w = .ok u w' → Gives P o a w u w' := fun hr => .inl (by simp [execOp, ho, resolve, invoke, builtin, hr])
  unfold appendB at hv
  split at hv
  · cases hv
  rename_i hfine
  obtain ⟨f1, f2, f3⟩ := fine_inv hfine
  have hzs : z.cells.size = i.size := by rw [← f1, q7, Array.length_toList]
  have hsmall : ∀ n : Nat, n * i.bytes ≤ lim → n ≤ maxLen := fun n hn => by
    have : n * 1 ≤ n * i.bytes := Nat.mul_le_mul_left _ f3
    unfold lim at hn
    unfold maxLen
    omega
  have hf0 : st.Free (· = (d, 0)) := hf.mono fun id hid => by rw [hid]
  have hfe := elemsB_free hf0 hy
  split at hv
  · rename_i hp
    rw [hp] at hx
    obtain ⟨hx, _⟩ := AVrep_v_inv hx
    split at hv
    · rename_i hb
      obtain ⟨hb, h0⟩ := hb
      cases hv
      obtain ⟨b, off, rfl, hh⟩ := e4 (by omega)
      have hnews : ∀ j u, us[j]? = some u → w.cell? ((⟨b, off, none⟩ : Addr).add j) = some u := fun j u hj => by rw [add_none]; exact hh j u hj
      obtain ⟨v', w', r1, r2, r3, r4, r5⟩ := run_append_own_at (P := P) w w.heap.size t o.type e inf z i.size i.bytes ht q1 q3 (by rw [q5]) (by rw [q6]) hzs f2 (.slice none 0 0) 0 [] ⟨by simp, .inl ⟨rfl, rfl⟩⟩ ⟨b, off, none⟩ es.length c' us e2 hnews (fun u hu => single_one (e3 u hu)) (by rw [Nat.zero_add]; exact hsmall _ hb) (by rw [Nat.zero_add]; unfold lim at hb; exact hb) (Nat.le_refl _)
      rcases r2.2 with ⟨rfl, hz0⟩ | ⟨g, cp, cur, rfl, hge, hbl, hncap, hcm, hcs, htk⟩
      · omega
      · simp only [Nat.zero_add, List.nil_append] at hncap htk r1
        have hS : ¬ S g := fun hs => by have := h.stab g hs; omega
        obtain ⟨k1, k2⟩ := h.newBig (w' := w') hf0 (es := es) (sz := i.size) (us := us) (fun i' o' hi' he => by have := (h.obs i' o' hi').lt; omega) hS (.inl (Nat.le_trans h.after.size hge)) (fun k hk _ => r3.block k hk (by simp [Value.ownBlock])) r3.os r3.tape r3.output r3.size hbl hcs hncap hcm e5 htk e6 e3 hfe
        exact ⟨_, w', _, _, gv (by rw [hx, e1]; exact r1), by simpa [St.eff] using k1, by simpa [St.eff] using k2, Far.upd _ _ _ _ _ _⟩
    · cases hv
  · rename_i id sz0 n hp
    rw [hp] at hx
    split at hv
    · rename_i sz fs hob
      split at hv
      · rename_i hc
        obtain ⟨hc1, hc2, hc3⟩ := hc
        subst hc1
        cases hv
        unfold AVrep at hx
        obtain ⟨A0, c, x1, x2, x3, x4, _, x5⟩ := hx
        obtain ⟨rfl, x6, x7, x8, x9⟩ := x5 _ fs.length (by rw [hob]; rfl)
        obtain ⟨rfl, rfl⟩ := x9 rfl
        obtain ⟨⟨⟨arr, ty, k1, k2, k3, k3'⟩, kl, k4, k5⟩, k6⟩ := h.obs id _ hob
        have hd := h.drop id
        have hfd : (st.setOb id none).Free (· = (d, 0)) := by
          refine ⟨hf0.tm, hf0.gh, fun i' cs hcs => hf0.avs i' cs ?_, fun i' hi' => ?_⟩
          · by_cases e' : i' = id
            · subst e'; simp [St.setOb] at hcs
            · simpa [St.setOb, e'] using hcs
          · by_cases e' : i' = id
            · subst e'; simp [St.setOb]
            · simp only [St.setOb, if_neg e']; exact hf0.none i' hi'
        have hgone : ∀ i' o', (st.setOb id none).ob i' = some o' → st.ob i' = some o' ∧ m i' ≠ m id := fun i' o' hi' => by
          by_cases e' : i' = id
          · subst e'; simp [St.setOb] at hi'
          · have : st.ob i' = some o' := by simpa [St.setOb, e'] using hi'
            exact ⟨this, fun he => e' (h.inj i' id (by rw [this]; simp) (by rw [hob]; simp) he)⟩
        have htd : Turn (fun _ => False) m m cap cap st.ob (st.setOb id none).ob := by
          refine ⟨fun i _ => ?_, fun i _ => ⟨rfl, rfl⟩⟩
          by_cases e : i = id
          · subst e; simp only [St.setOb, if_true]; exact Ob.leads_none _
          · simp only [St.setOb, if_neg e]; exact Ob.leads_refl _
        have hlt : ∀ e ∈ fs.take n, e.length = i.size := fun e he => kl e (List.mem_of_mem_take he)
        have hfl : (fs.take n).length = n := by rw [List.length_take]; omega
        have hft : (fs.take n).flatten = fs.flatten.take (n * i.size) := by
          have e1 : fs.flatten = (fs.take n).flatten ++ (fs.drop n).flatten := by rw [← List.flatten_append, List.take_append_drop]
          have e2 : (fs.take n).flatten.length = n * i.size := by rw [flatten_len hlt, hfl]
          rw [e1, ← e2, List.take_left]
        have hle : fs.length * i.size ≤ cap id * i.size := Nat.mul_le_mul_right _ k4
        have hnle : n * i.size ≤ fs.length * i.size := Nat.mul_le_mul_right _ hc2
        have hal : arr.toList.length = cap id * i.size := by rw [Array.length_toList]; exact k2
        -- the row's values
        have hvs : AVreps w S m cap st.ob (fs.take n).flatten (arr.toList.take (n * i.size)) := by
          rw [hft]
          have := AVreps.take k3 (n * i.size)
          rw [List.take_take, Nat.min_eq_left hnle] at this
          exact this
        have hvl : (arr.toList.take (n * i.size)).length = n * i.size := by rw [List.length_take, hal]; omega
        have hsv : ∀ u ∈ arr.toList.take (n * i.size), Single u := fun u hu => k3' u (by
          rw [← Nat.min_eq_left hnle, ← List.take_take] at hu
          exact List.mem_of_mem_take hu)
        have hnl : n + es.length = (fs.take n ++ es).length := by rw [List.length_append, hfl]
        have hes' : ∀ e ∈ fs.take n ++ es, e.length = i.size := fun e he => by
          rcases List.mem_append.1 he with he | he
          · exact hlt e he
          · exact e6 e he
        have hall : AVreps w S m cap (st.setOb id none).ob (fs.take n ++ es).flatten (arr.toList.take (n * i.size) ++ us) := by
          rw [List.flatten_append]
          exact AVreps.keep (Same.refl _ _) (fun _ hb => hb) htd _ _ (AV.frees_false _) (AVreps_append2 hvs e5)
        have hsall : ∀ u ∈ arr.toList.take (n * i.size) ++ us, Single u := fun u hu => by
          rcases List.mem_append.1 hu with hu | hu
          · exact hsv u hu
          · exact e3 u hu
        have hfall : AV.frees (· = (d, 0)) (fs.take n ++ es).flatten := by
          rw [List.flatten_append]
          refine frees_append2 (frees_mem fun x hx => ?_) hfe
          rw [hft] at hx
          exact mem_frees (hf0.avs _ _ hob) x (List.mem_of_mem_take hx)
        have hlal : (arr.toList.take (n * i.size) ++ us).length = (fs.take n ++ es).length * i.size := by
          rw [List.length_append, hvl, e2, ← hnl, Nat.add_mul]
        by_cases hroom : n + es.length ≤ cap id
        · obtain ⟨w', r1, r2, r3, r4, r5, r6, r7⟩ := run_room (P := P) ht hi k1 hroom (by rw [k2]; exact Nat.le_refl _) e2 e4 e3 o.type
          have hlen : n * i.size + us.length ≤ arr.size := by
            rw [e2, ← Nat.add_mul, k2]
            exact Nat.mul_le_mul_right _ hroom
          have htk : (putAll arr (n * i.size) us).toList.take ((fs.take n ++ es).length * i.size) = arr.toList.take (n * i.size) ++ us := by
            rw [← hlal]
            apply List.ext_getElem?
            intro j
            rw [List.getElem?_take, Array.getElem?_toList, putAll_get _ _ _ _ hlen]
            by_cases hj : j < (arr.toList.take (n * i.size) ++ us).length
            · rw [if_pos hj]
              by_cases hjn : j < n * i.size
              · rw [if_neg (by omega), List.getElem?_append_left (by omega), List.getElem?_take, if_pos hjn, Array.getElem?_toList]
              · rw [List.length_append, hvl] at hj
                rw [if_pos (by omega), List.getElem?_append_right (by omega), hvl]
            · rw [if_neg hj, List.getElem?_eq_none (by omega)]
          obtain ⟨l1, l2⟩ := hd.newBig (w' := w') hfd (es := fs.take n ++ es) (sz := i.size) (us := arr.toList.take (n * i.size) ++ us) (fun i' o' hi' => (hgone i' o' hi').2) k6 (h.mine id _ hob) (fun k _ hk => r3 k hk) r4 r5 r6 (by omega) r2 (by rw [putAll_size]; exact k2) (by rw [← hnl]; exact hroom) k5 hall htk hes' hsall hfall
          rw [← hnl] at l2
          exact ⟨_, w', _, _, gv (by rw [x1, e1]; exact r1), by simpa [St.eff] using l1, by simpa [St.eff] using l2, Far.upd _ _ _ _ _ _⟩
        · have hpos : 0 < es.length := by omega
          obtain ⟨b, off, rfl, hh⟩ := e4 hpos
          have hnews : ∀ j u, us[j]? = some u → w.cell? ((⟨b, off, none⟩ : Addr).add j) = some u := fun j u hj => by rw [add_none]; exact hh j u hj
          have holds : ∀ j u, (arr.toList.take (n * i.size))[j]? = some u → w.cell? ((⟨m id, 0, none⟩ : Addr).add j) = some u := fun j u hj => by
            rw [add_none]
            have := holds_cells k1 0 (n * i.size) j u (by simpa using hj)
            simpa using this
          obtain ⟨v', w', r1, r2, r3⟩ := run_append_arg_grows (P := P) w t o.type e inf z i.size i.bytes ht q1 q3 (by rw [q5]) (by rw [q6]) hzs f2 ⟨m id, 0, none⟩ n (cap id) (arr.toList.take (n * i.size)) hvl holds ⟨b, off, none⟩ es.length c' us e2 hnews (by omega) (hsmall _ hc3) (by unfold lim at hc3; exact hc3)
          rcases r2.2 with ⟨rfl, hz0⟩ | ⟨g, cp, cur, rfl, hge, hbl, hncap, hcm, hcs, htk⟩
          · omega
          · have hS : ¬ S g := fun hs => by have := h.stab g hs; omega
            have htk' : cur.toList.take ((fs.take n ++ es).length * i.size) = arr.toList.take (n * i.size) ++ us := by rw [← hnl]; exact htk
            obtain ⟨l1, l2⟩ := hd.newBig (w' := w') hfd (es := fs.take n ++ es) (sz := i.size) (us := arr.toList.take (n * i.size) ++ us) (fun i' o' hi' he => by have := (h.obs i' o' (hgone i' o' hi').1).lt; omega) hS (.inl (Nat.le_trans h.after.size hge)) (fun k hk _ => r3.block k hk (by simp)) r3.os r3.tape r3.output r3.size hbl hcs (by rw [← hnl]; exact hncap) hcm hall htk' hes' hsall hfall
            rw [← hnl] at l2
            exact ⟨_, w', _, _, gv (by rw [x1, e1]; exact r1), by simpa [St.eff] using l1, by simpa [St.eff] using l2, Far.upd _ _ _ _ _ _⟩
      · cases hv
    · cases hv
  · cases hv

end Cal
