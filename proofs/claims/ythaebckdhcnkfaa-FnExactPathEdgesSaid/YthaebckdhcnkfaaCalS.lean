/- A calculus of our own, eighteenth part: struct literals, slices made, slices of slices. No program is named here. -/
import Derived.Test.YthaebckdhcnkfaaCalR
import Derived.Laws.MakeOwn
import Derived.Laws.Tables
set_option linter.unusedSimpArgs false
set_option linter.unusedVariables false
namespace Cal
open Go Go.RowKit

variable {P : Program} {w0 w : World} {S0 S : Nat → Prop} {own : List Nat} {N : Nat} {m cap : Id → Nat} {st : St} {a : Act}

theorem mapM_get {α β : Type} (f : α → Option β) : ∀ (l : List α) (r : List β), l.mapM f = some r → ∀ (i : Nat) (x : α), l[i]? = some x → ∃ y, f x = some y ∧ r[i]? = some y
  | [], r, h, i, x, hx => by simp at hx
  | a :: l, r, h, i, x, hx => by
    simp only [List.mapM_cons, Option.bind_eq_bind, Option.pure_def] at h
    cases ha : f a with
    | none => simp [ha] at h
    | some b =>
      cases hl : l.mapM f with
      | none => simp [ha, hl] at h
      | some bs =>
        simp [ha, hl] at h
        subst h
        cases i with
        | zero => simp at hx; subst hx; exact ⟨b, ha, rfl⟩
        | succ i =>
          obtain ⟨y, h1, h2⟩ := mapM_get f l bs hl i x (by simpa using hx)
          exact ⟨y, h1, by simpa using h2⟩

theorem fill_rep {t : TypeId} (h : RelAt w0 S0 own N m cap S st a w) {place : Nat → Option (Nat × Nat)} (hpl : ∀ i off size ag, foff P t i = some (off, size, ag) → place i = some (off, size)) :
    ∀ (ps : List (Nat × Operand)) (zero : List AV) (cells : Array Value) (cs : List AV), AVreps w S m cap st.ob zero cells.toList → fillA P t st zero ps = some cs →
      ∃ arr, Instr.fill place cells (ps.map fun p => (p.1, a.eval p.2)) = some arr ∧ AVreps w S m cap st.ob cs arr.toList
  | [], zero, cells, cs, hr, hf => by
    unfold fillA at hf
    cases hf
    exact ⟨cells, rfl, hr⟩
  | (i, x) :: ps, zero, cells, cs, hr, hf => by
    unfold fillA at hf
    split at hf
    · rename_i off size ag hfo
      split at hf
      · rename_i hc
        obtain ⟨hc1, hc2, hc3⟩ := hc
        obtain ⟨g1, g2⟩ := cells_rep (h.ev x) hc3
        have hlen := hr.len
        have hlx : (a.eval x).cells.size = size := by rw [← Array.length_toList, g1.len, hc1]
        have hcs : off + size ≤ cells.size := by rw [← Array.length_toList, hlen]; exact hc2
        have hfold : (a.eval x).cells.zipIdx.foldl (fun cs (p : Value × Nat) => cs.setIfInBounds (off + p.2) p.1) cells = putAll cells off (a.eval x).cells.toList := by
          rw [← Array.foldl_toList, Array.toList_zipIdx]
          exact fold_put off (a.eval x).cells.toList 0 cells
        have hr' : AVreps w S m cap st.ob (over zero off (st.ev x).cells) (putAll cells off (a.eval x).cells.toList).toList := by
          rw [AVreps_iff]
          refine ⟨by rw [Array.length_toList, putAll_size, over_length (by rw [hc1]; exact hc2), ← hlen, Array.length_toList], fun j v u hj hu => ?_⟩
          rw [over_get (by rw [hc1]; exact hc2)] at hj
          rw [Array.getElem?_toList, putAll_get _ _ _ _ (by rw [Array.length_toList, hlx]; exact hcs)] at hu
          rw [Array.length_toList, hlx] at hu
          rw [hc1] at hj
          split at hj
          · rename_i hb
            rw [if_pos hb] at hu
            exact (AVreps_iff.1 g1).2 _ v u hj hu
          · rename_i hb
            rw [if_neg hb] at hu
            exact (AVreps_iff.1 hr).2 _ v u hj (by rw [Array.getElem?_toList]; exact hu)
        obtain ⟨arr, k1, k2⟩ := fill_rep h hpl ps _ _ cs hr' hf
        refine ⟨arr, ?_, k2⟩
        simp only [List.map_cons, Instr.fill, hpl i off size ag hfo]
        have hno : ¬ ((decide ((a.eval x).cells.size ≠ size) || decide (off + (a.eval x).cells.size > cells.size)) = true) := by
          rw [hlx]
          simp only [ne_eq, not_true_eq_false, decide_false, Bool.false_or, decide_eq_true_eq]
          omega
        rw [if_neg hno, ← k1]
        congr 1
      · cases hf
    · cases hf

theorem still_build {o : Oper} {t : TypeId} {parts : Array (Nat × Operand)} (ho : o.op = .build t parts) (h : RelAt w0 S0 own N m cap S st a w) {i : TI} (ht : tinf P t = some i) (hs : okStruct P t = true) (hp : i.zero.all plain = true) {cs : List AV}
    (hv : fillA P t st (i.zero.map fun x => .t (.v x)) parts.toList = some cs) : ∃ u, Still P o a w u ∧ AVrep w S m cap st.ob (.agg cs) u := by
  obtain ⟨inf, d, z, q1, q2, q3, q4, q5, q6, q7⟩ := tinf_inv ht
  unfold okStruct at hs
  split at hs
  · rename_i fs hu
    obtain ⟨places, hpl⟩ := Option.isSome_iff_exists.1 hs
    have hplace : ∀ k off size ag, foff P t k = some (off, size, ag) → places.toArray[k]? = some (off, size) := by
      intro k off size ag hk
      obtain ⟨fs', fd, i', h1, h2, h3, h4, h5, h6⟩ := foff_inv hk
      rw [hu] at h1
      cases h1
      obtain ⟨y, hy1, hy2⟩ := mapM_get _ fs.toList places hpl k fd (by rw [Array.getElem?_toList]; exact h2)
      obtain ⟨inf', d', z', r1, r2, r3, r4, r5, r6, r7⟩ := tinf_inv h3
      rw [r1] at hy1
      simp only [Option.map_some, Option.some.injEq] at hy1
      subst hy1
      rw [List.getElem?_toArray, hy2, h4, ← r5, h5]
    have hz : AVreps w S m cap st.ob (i.zero.map fun x => .t (.v x)) z.cells.toList := by
      rw [q7]
      exact AVreps_plain fun x hx => List.all_eq_true.1 hp x (by rw [q7]; exact hx)
    obtain ⟨arr, k1, k2⟩ := fill_rep h hplace parts.toList _ z.cells cs hz hv
    have hb : P.built t (parts.map fun (p : Nat × Operand) => (p.1, a.eval p.2)).toList = some arr := by
      unfold Program.built
      rw [q1, hu]
      simp only [q3, hpl]
      rw [Array.toList_map]
      exact k1
    refine ⟨.agg arr, ?_, ?_⟩
    · simp only [Still, execOp, ho, Sem.run_bind]
      rw [run_build w t _ arr hb]
      rfl
    · unfold AVrep
      exact ⟨arr.toList, by simp, k2⟩
  · cases hs

theorem gives_makeSlice {o : Oper} {t : TypeId} {x y : Operand} (ho : o.op = .makeSlice t x y) (h : RelAt w0 S0 own N m cap S st a w) {d : Nat} (hf : st.Free (·.1 = d)) {v : AV} {f : Eff} (hv : makeA d (elemOf P t) (st.ev x) (st.ev y) = some (v, f)) :
    ∃ u w' m' cap', Gives P o a w u w' ∧ RelAt w0 S0 own N m' cap' S (st.eff f) a w' ∧ AVrep w' S m' cap' (st.eff f).ob v u ∧ Far d m m' cap cap' := by
  have hx := h.ev x
  have hy := h.ev y
  unfold makeA at hv
  split at hv
  · rename_i e i n c hel hxe hye
    rw [hxe] at hx
    rw [hye] at hy
    obtain ⟨hx, _⟩ := AVrep_v_inv hx
    obtain ⟨hy, _⟩ := AVrep_v_inv hy
    split at hv
    · rename_i hc
      obtain ⟨c1, c2, c3, c4, c5⟩ := hc
      cases hv
      obtain ⟨ht, hi⟩ := elemOf_inv hel
      obtain ⟨inf, dd, z, q1, q2, q3, q4, q5, q6, q7⟩ := tinf_inv hi
      obtain ⟨f1, f2, f3⟩ := fine_inv (i := i) (by rw [c1]; decide)
      have hcm : c.toNat ≤ lim := Nat.le_trans (by have := Nat.mul_le_mul_left c.toNat f3; omega) c5
      unfold lim at hcm c5
      have hb : (inf.bytes : Int) * c ≤ 281474976710656 := by
        have : ((inf.bytes * c.toNat : Nat) : Int) ≤ 281474976710656 := by rw [← q6, Nat.mul_comm]; omega
        rw [Int.natCast_mul, Int.toNat_of_nonneg (by omega)] at this
        exact this
      have hrun := run_make (P := P) w t e inf z ht q1 q3 .i64 .i64 n c c3 c4 hb (by omega)
      have hzs : z.cells.size = i.size := by rw [← f1, q7, Array.length_toList]
      have hcur : (w.alloc (.cells (madeCells z.cells (c.toNat * inf.size)) e)).heap[w.heap.size]? = some (.cells (madeCells z.cells (c.toNat * inf.size)) e (0, 0)) := by
        show (w.heap.push _)[w.heap.size]? = _
        simp
      have hnc : n.toNat ≤ c.toNat := by omega
      have hE : Ereps (w.alloc (.cells (madeCells z.cells (c.toNat * inf.size)) e)) S w.heap.size 0 i.size (List.replicate n.toNat (i.zero.map .v)) := by
        rw [Ereps_iff]
        intro j el hj
        rw [List.getElem?_replicate] at hj
        split at hj
        · rename_i hjn
          cases hj
          refine ⟨by rw [List.length_map, f1], ?_⟩
          rw [Creps_iff]
          intro r x' hr
          rw [List.getElem?_map] at hr
          cases hzr : i.zero[r]? with
          | none => simp [hzr] at hr
          | some u =>
            simp [hzr] at hr
            subst hr
            have hrl := (List.getElem?_eq_some_iff.1 hzr).1
            rw [f1] at hrl
            have hplt : j * i.size + r < c.toNat * i.size := by
              have : (j + 1) * i.size ≤ c.toNat * i.size := Nat.mul_le_mul_right _ (by omega)
              rw [Nat.succ_mul] at this
              omega
            refine ⟨u, ?_, ?_⟩
            · simp only [World.cell?, hcur, Nat.zero_add]
              have hget : (madeCells z.cells (c.toNat * inf.size))[j * i.size + r]? = some u := by
                unfold madeCells
                rw [Array.getElem?_map, Array.getElem?_range, if_pos (by rw [← q5]; exact hplt)]
                simp only [Option.map_some, Option.some.injEq]
                rw [hzs, Nat.mul_comm, Nat.mul_add_mod, Nat.mod_eq_of_lt hrl]
                have hu : z.cells[r]? = some u := by rw [← Array.getElem?_toList, ← q7]; exact hzr
                have hlt : r < z.cells.size := by omega
                rw [getElem!_pos z.cells r hlt]
                rw [Array.getElem?_eq_getElem hlt] at hu
                exact Option.some.inj hu
              rw [hget]
              rfl
            · exact Trep_v (List.all_eq_true.1 c2 u (List.mem_of_getElem? hzr))
        · cases hj
      obtain ⟨k1, k2⟩ := h.newRow (w' := w.alloc (.cells (madeCells z.cells (c.toNat * inf.size)) e)) (d := d) (hf.mono fun id hid => by rw [hid]) (g := w.heap.size) (c := c.toNat) (sz := i.size) (es := List.replicate n.toNat (i.zero.map .v)) (cur := madeCells z.cells (c.toNat * inf.size)) (ty := e)
        (fun i' o' hi' => Nat.ne_of_lt (h.obs i' o' hi').lt) (fun hs => Nat.lt_irrefl _ (h.stab _ hs)) (.inl h.after.size) (fun k hk _ => heap_alloc_old w _ hk) rfl rfl rfl (by show w.heap.size ≤ (w.heap.push _).size; simp) hcur (by rw [size_madeCells, q5]) (by rw [List.length_replicate]; exact hnc) (by unfold maxLen; omega) hE
      rw [List.length_replicate] at k2
      exact ⟨_, _, _, _, .inl (by simp [execOp, ho, hx, hy, hrun]), k1, k2, Far.upd _ _ _ _ _ _⟩
    · cases hv
  · cases hv

end Cal
