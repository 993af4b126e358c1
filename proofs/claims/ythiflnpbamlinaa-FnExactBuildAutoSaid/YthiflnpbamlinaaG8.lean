/- A part of the proof: a calculus of our own over the model's code, and contracts of the program's functions. -/
import Derived.Laws.MakeOwn
import Derived.Laws.Tables
import Derived.Test.YthiflnpbamlinaaG7
/- A calculus of our own, eighteenth part: struct literals, slices made, slices of slices. No program is named here. -/
set_option linter.unusedSimpArgs false
set_option linter.unusedVariables false
namespace Cal
open Go Go.RowKit

variable {P : Program} {w0 w : World} {S0 S : Nat → Prop} {own : List Nat} {X : Nat → Value} {N : Nat} {m cap : Id → Nat} {st : St} {a : Act}

theorem mapM_get {α β : Type} (f : α → Option β) : ∀ (l : List α) (r : List β), l.mapM f = some r → ∀ (i : Nat) (x : α), l[i]? = some x → ∃ y, f x = some y ∧ r[i]? = some y
  | [], r, h, i, x, hx => by simp at hx
  | a :: l, r, h, i, x, hx => by
    simp only [List.mapM_cons, Option.bind_eq_bind, Option.pure_def] at h
    cases ha : f a with
    | none => simp [ha] at h
    | some b =>
      cases hl : l.mapM f with
      | none => simp [ha, hl] at h
      | some bs =>
        simp [ha, hl] at h
        subst h
        cases i with
        | zero => simp at hx; subst hx; exact ⟨b, ha, rfl⟩
        | succ i =>
          obtain ⟨y, h1, h2⟩ := mapM_get f l bs hl i x (by simpa using hx)
          exact ⟨y, h1, by simpa using h2⟩

theorem fill_rep {t : TypeId} (h : RelAt w0 S0 own X N m cap S st a w) {place : Nat → Option (Nat × Nat)} (hpl : ∀ i off size ag, foff P t i = some (off, size, ag) → place i = some (off, size)) :
    ∀ (ps : List (Nat × Operand)) (zero : List AV) (cells : Array Value) (cs : List AV), AVreps w S m cap st.ob zero cells.toList → fillA P t st zero ps = some cs →
      ∃ arr, Instr.fill place cells (ps.map fun p => (p.1, a.eval p.2)) = some arr ∧ AVreps w S m cap st.ob cs arr.toList
  | [], zero, cells, cs, hr, hf => by
    unfold fillA at hf
    cases hf
    exact ⟨cells, rfl, hr⟩
  | (i, x) :: ps, zero, cells, cs, hr, hf => by
    unfold fillA at hf
    split at hf
    · rename_i off size ag hfo
      split at hf
      · rename_i hc
        obtain ⟨hc1, hc2, hc3⟩ := hc
        obtain ⟨g1, g2⟩ := cells_rep (h.ev x) hc3
        have hlen := hr.len
        have hlx : (a.eval x).cells.size = size := by rw [← Array.length_toList, g1.len, hc1]
        have hcs : off + size ≤ cells.size := by rw [← Array.length_toList, hlen]; exact hc2
        have hfold : (a.eval x).cells.zipIdx.foldl (fun cs (p : Value × Nat) => cs.setIfInBounds (off + p.2) p.1) cells = putAll cells off (a.eval x).cells.toList := by
          rw [← Array.foldl_toList, Array.toList_zipIdx]
          exact fold_put off (a.eval x).cells.toList 0 cells
        have hr' : AVreps w S m cap st.ob (over zero off (st.ev x).cells) (putAll cells off (a.eval x).cells.toList).toList := by
          rw [AVreps_iff]
          refine ⟨by rw [Array.length_toList, putAll_size, over_length (by rw [hc1]; exact hc2), ← hlen, Array.length_toList], fun j v u hj hu => ?_⟩
          rw [over_get (by rw [hc1]; exact hc2)] at hj
          rw [Array.getElem?_toList, putAll_get _ _ _ _ (by rw [Array.length_toList, hlx]; exact hcs)] at hu
          rw [Array.length_toList, hlx] at hu
          rw [hc1] at hj
          split at hj
          · rename_i hb
            rw [if_pos hb] at hu
            exact (AVreps_iff.1 g1).2 _ v u hj hu
          · rename_i hb
            rw [if_neg hb] at hu
            exact (AVreps_iff.1 hr).2 _ v u hj (by rw [Array.getElem?_toList]; exact hu)
        obtain ⟨arr, k1, k2⟩ := fill_rep h hpl ps _ _ cs hr' hf
        refine ⟨arr, ?_, k2⟩
        simp only [List.map_cons, Instr.fill, hpl i off size ag hfo]
        have hno : ¬ ((decide ((a.eval x).cells.size ≠ size) || decide (off + (a.eval x).cells.size > cells.size)) = true) := by
          rw [hlx]
          simp only [ne_eq, not_true_eq_false, decide_false, Bool.false_or, decide_eq_true_eq]
          omega
        rw [if_neg hno, ← k1]
        congr 1
      · cases hf
    · cases hf

theorem still_build {o : Oper} {t : TypeId} {parts : Array (Nat × Operand)} (ho : o.op = .build t parts) (h : RelAt w0 S0 own X N m cap S st a w) {i : TI} (ht : tinf P t = some i) (hs : okStruct P t = true) (hp : i.zero.all plain = true) {cs : List AV}
    (hv : fillA P t st (i.zero.map fun x => .t (.v x)) parts.toList = some cs) : ∃ u, Still P o a w u ∧ AVrep w S m cap st.ob (.agg cs) u := by
  obtain ⟨inf, d, z, q1, q2, q3, q4, q5, q6, q7⟩ := tinf_inv ht
  unfold okStruct at hs
  split at hs
  · rename_i fs hu
    obtain ⟨places, hpl⟩ := Option.isSome_iff_exists.1 hs
    have hplace : ∀ k off size ag, foff P t k = some (off, size, ag) → places.toArray[k]? = some (off, size) := by
      intro k off size ag hk
      obtain ⟨fs', fd, i', h1, h2, h3, h4, h5, h6⟩ := foff_inv hk
      rw [hu] at h1
      cases h1
      obtain ⟨y, hy1, hy2⟩ := mapM_get _ fs.toList places hpl k fd (by rw [Array.getElem?_toList]; exact h2)
      obtain ⟨inf', d', z', r1, r2, r3, r4, r5, r6, r7⟩ := tinf_inv h3
      rw [r1] at hy1
      simp only [Option.map_some, Option.some.injEq] at hy1
      subst hy1
      rw [List.getElem?_toArray, hy2, h4, ← r5, h5]
    have hz : AVreps w S m cap st.ob (i.zero.map fun x => .t (.v x)) z.cells.toList := by
      rw [q7]
      exact AVreps_plain fun x hx => List.all_eq_true.1 hp x (by rw [q7]; exact hx)
    obtain ⟨arr, k1, k2⟩ := fill_rep h hplace parts.toList _ z.cells cs hz hv
    have hb : P.built t (parts.map fun (p : Nat × Operand) => (p.1, a.eval p.2)).toList = some arr := by
      unfold Program.built
      rw [q1, hu]
      simp only [q3, hpl]
      rw [Array.toList_map]
      exact k1
    refine ⟨.agg arr, ?_, ?_⟩
    · simp only [Still, execOp, ho, Sem.run_bind]
      rw [run_build w t _ arr hb]
      rfl
    · unfold AVrep
      exact ⟨arr.toList, by simp, k2⟩
  · cases hs

theorem gives_makeSlice {o : Oper} {t : TypeId} {x y : Operand} (ho : o.op = .makeSlice t x y) (h : RelAt w0 S0 own X N m cap S st a w) {d : Nat} (hf : st.Free (·.1 = d)) {v : AV} {f : Eff} (hv : makeA d (elemOf P t) (st.ev x) (st.ev y) = some (v, f)) :
    ∃ u w' m' cap', Gives P o a w u w' ∧ RelAt w0 S0 own X N m' cap' S (st.eff f) a w' ∧ AVrep w' S m' cap' (st.eff f).ob v u ∧ Far d m m' cap cap' := by
  have hx := h.ev x
  have hy := h.ev y
  unfold makeA at hv
  split at hv
  · rename_i e i n c hel hxe hye
    rw [hxe] at hx
    rw [hye] at hy
    obtain ⟨hx, _⟩ := AVrep_v_inv hx
    obtain ⟨hy, _⟩ := AVrep_v_inv hy
    split at hv
    · rename_i hc
      obtain ⟨c1, c2, c3, c4, c5⟩ := hc
      cases hv
      obtain ⟨ht, hi⟩ := elemOf_inv hel
      obtain ⟨inf, dd, z, q1, q2, q3, q4, q5, q6, q7⟩ := tinf_inv hi
      obtain ⟨f1, f2, f3⟩ := fine_inv (i := i) (by rw [c1]; decide)
      have hcm : c.toNat ≤ lim := Nat.le_trans (by have := Nat.mul_le_mul_left c.toNat f3; omega) c5
      unfold lim at hcm c5
      have hb : (inf.bytes : Int) * c ≤ 281474976710656 := by
        have : ((inf.bytes * c.toNat : Nat) : Int) ≤ 281474976710656 := by rw [← q6, Nat.mul_comm]; omega
        rw [Int.natCast_mul, Int.toNat_of_nonneg (by omega)] at this
        exact this
      have hrun := run_make (P := P) w t e inf z ht q1 q3 .i64 .i64 n c c3 c4 hb (by omega)
      have hzs : z.cells.size = i.size := by rw [← f1, q7, Array.length_toList]
      have hcur : (w.alloc (.cells (madeCells z.cells (c.toNat * inf.size)) e)).heap[w.heap.size]? = some (.cells (madeCells z.cells (c.toNat * inf.size)) e (0, 0)) := by
        show (w.heap.push _)[w.heap.size]? = _
        simp
      have hnc : n.toNat ≤ c.toNat := by omega
      have hE : Ereps (w.alloc (.cells (madeCells z.cells (c.toNat * inf.size)) e)) S w.heap.size 0 i.size (List.replicate n.toNat (i.zero.map .v)) := by
        rw [Ereps_iff]
        intro j el hj
        rw [List.getElem?_replicate] at hj
        split at hj
        · rename_i hjn
          cases hj
          refine ⟨by rw [List.length_map, f1], ?_⟩
          rw [Creps_iff]
          intro r x' hr
          rw [List.getElem?_map] at hr
          cases hzr : i.zero[r]? with
          | none => simp [hzr] at hr
          | some u =>
            simp [hzr] at hr
            subst hr
            have hrl := (List.getElem?_eq_some_iff.1 hzr).1
            rw [f1] at hrl
            have hplt : j * i.size + r < c.toNat * i.size := by
              have : (j + 1) * i.size ≤ c.toNat * i.size := Nat.mul_le_mul_right _ (by omega)
              rw [Nat.succ_mul] at this
              omega
            refine ⟨u, ?_, ?_⟩
            · simp only [World.cell?, hcur, Nat.zero_add]
              have hget : (madeCells z.cells (c.toNat * inf.size))[j * i.size + r]? = some u := by
                unfold madeCells
                rw [Array.getElem?_map, Array.getElem?_range, if_pos (by rw [← q5]; exact hplt)]
                simp only [Option.map_some, Option.some.injEq]
                rw [hzs, Nat.mul_comm, Nat.mul_add_mod, Nat.mod_eq_of_lt hrl]
                have hu : z.cells[r]? = some u := by rw [← Array.getElem?_toList, ← q7]; exact hzr
                have hlt : r < z.cells.size := by omega
                rw [getElem!_pos z.cells r hlt]
                rw [Array.getElem?_eq_getElem hlt] at hu
                exact Option.some.inj hu
              rw [hget]
              rfl
            · exact Trep_v (List.all_eq_true.1 c2 u (List.mem_of_getElem? hzr))
        · cases hj
      obtain ⟨k1, k2⟩ := h.newRow (w' := w.alloc (.cells (madeCells z.cells (c.toNat * inf.size)) e)) (d := d) (hf.mono fun id hid => by rw [hid]) (g := w.heap.size) (c := c.toNat) (sz := i.size) (es := List.replicate n.toNat (i.zero.map .v)) (cur := madeCells z.cells (c.toNat * inf.size)) (ty := e)
        (fun i' o' hi' => Nat.ne_of_lt (h.obs i' o' hi').lt) (fun hs => Nat.lt_irrefl _ (h.stab _ hs)) (.inl h.after.size) (fun k hk _ => heap_alloc_old w _ hk) rfl rfl rfl (by show w.heap.size ≤ (w.heap.push _).size; simp) hcur (by rw [size_madeCells, q5]) (by rw [List.length_replicate]; exact hnc) (by unfold maxLen; omega) hE
      rw [List.length_replicate] at k2
      exact ⟨_, _, _, _, .inl (by simp [execOp, ho, hx, hy, hrun]), k1, k2, Far.upd _ _ _ _ _ _⟩
    · cases hv
  · cases hv

end Cal

/- A calculus of our own, nineteenth part: slices of slices and strings. No program is named here. -/
set_option linter.unusedSimpArgs false
set_option linter.unusedVariables false
namespace Cal
open Go Go.RowKit

variable {P : Program} {w0 w : World} {S0 S : Nat → Prop} {own : List Nat} {X : Nat → Value} {N : Nat} {m cap : Id → Nat} {st : St} {a : Act}

/-- A bound of a slice, and its number. -/
def Bound : Option Value → Option Int → Prop
  | none, none => True
  | some (.int _ n), some n' => n' = n
  | _, _ => False

theorem run_sliceBound (k : IntKind) (n : Int) (y : Nat) (c : BoundsCode) (w : World) (h0 : 0 ≤ n) (h1 : n ≤ y) : (Instr.sliceBound (.int k n) y c).run P w = .ok n.toNat w := by
  simp [Instr.sliceBound, asIntOf, h0, h1]

theorem run_bounds (b : Bool) (len c : Nat) (w : World) {low high : Option Value} {lo hi : Option Int} (hl : Bound low lo) (hh : Bound high hi) (h0 : 0 ≤ lo.getD 0) (h1 : lo.getD 0 ≤ hi.getD len) (h2 : hi.getD len ≤ len) (h3 : len ≤ c) :
    (Instr.sliceBounds b len c low high none).run P w = .ok ((lo.getD 0).toNat, (hi.getD len).toNat, c) w := by
  unfold Instr.sliceBounds
  cases high with
  | none =>
    cases hi with
    | some _ => exact hh.elim
    | none =>
      cases low with
      | none =>
        cases lo with
        | some _ => exact hl.elim
        | none => simp
      | some v =>
        cases v <;> first | (cases lo <;> exact hl.elim) | skip
        rename_i k n
        cases lo with
        | none => exact hl.elim
        | some n' =>
          simp only [Bound] at hl
          subst hl
          simp only [Option.getD_some, Option.getD_none] at *
          simp [run_sliceBound k n' len _ w h0 h1]
  | some v =>
    cases v <;> first | (cases hi <;> exact hh.elim) | skip
    rename_i k n
    cases hi with
    | none => exact hh.elim
    | some n' =>
      simp only [Bound] at hh
      subst hh
      simp only [Option.getD_some] at *
      have hb : ∀ code, (Instr.sliceBound (.int k n') c code).run P w = .ok n'.toNat w := fun code => run_sliceBound k n' c code w (by omega) (by omega)
      cases low with
      | none =>
        cases lo with
        | some _ => exact hl.elim
        | none => simp [hb]
      | some v =>
        cases v <;> first | (cases lo <;> exact hl.elim) | skip
        rename_i k2 n2
        cases lo with
        | none => exact hl.elim
        | some n2' =>
          simp only [Bound] at hl
          subst hl
          simp only [Option.getD_some] at *
          simp [hb, run_sliceBound k2 n2' n'.toNat _ w h0 (by omega)]

theorem intA_bound (h : RelAt w0 S0 own X N m cap S st a w) {x : Operand} {n : Int} (hx : intA (st.ev x) = some n) : Bound (some (a.eval x)) (some n) := by
  have hr := h.ev x
  unfold intA at hx
  split at hx
  · rename_i k n' hp
    rw [hp] at hr
    obtain ⟨hr, _⟩ := AVrep_v_inv hr
    cases hx
    rw [hr]
    rfl
  · cases hx

theorem sliceO_inv (h : RelAt w0 S0 own X N m cap S st a w) {k : TK} {x : AV} {lo hi : Option Operand} {v : AV} {f : Eff} (hv : sliceO k x (lo.map fun o => intA (st.ev o)) (hi.map fun o => intA (st.ev o)) = some (v, f)) :
    f = [] ∧ ∃ l r, Bound (lo.map a.eval) l ∧ Bound (hi.map a.eval) r ∧ sliceA k x l r = some v := by
  have key : ∀ l r, (sliceA k x l r).map (fun v => (v, ([] : Eff))) = some (v, f) → f = [] ∧ sliceA k x l r = some v := by
    intro l r e
    cases hs : sliceA k x l r with
    | none => simp [hs] at e
    | some v' => simp [hs] at e; exact ⟨e.2, by rw [e.1]⟩
  cases lo with
  | none =>
    cases hi with
    | none => obtain ⟨e1, e2⟩ := key none none hv; exact ⟨e1, none, none, trivial, trivial, e2⟩
    | some y =>
      cases hy : intA (st.ev y) with
      | none => simp only [Option.map_none, Option.map_some, hy] at hv; exact absurd hv (by simp [sliceO])
      | some n => simp only [Option.map_none, Option.map_some, hy] at hv; obtain ⟨e1, e2⟩ := key none (some n) hv; exact ⟨e1, none, some n, trivial, intA_bound h hy, e2⟩
  | some y =>
    cases hy : intA (st.ev y) with
    | none =>
      cases hi with
      | none => simp only [Option.map_none, Option.map_some, hy] at hv; exact absurd hv (by simp [sliceO])
      | some z => simp only [Option.map_none, Option.map_some, hy] at hv; exact absurd hv (by simp [sliceO])
    | some n =>
      cases hi with
      | none => simp only [Option.map_none, Option.map_some, hy] at hv; obtain ⟨e1, e2⟩ := key (some n) none hv; exact ⟨e1, some n, none, intA_bound h hy, trivial, e2⟩
      | some z =>
        cases hz : intA (st.ev z) with
        | none => simp only [Option.map_none, Option.map_some, hy, hz] at hv; exact absurd hv (by simp [sliceO])
        | some n2 => simp only [Option.map_some, hy, hz] at hv; obtain ⟨e1, e2⟩ := key (some n) (some n2) hv; exact ⟨e1, some n, some n2, intA_bound h hy, intA_bound h hz, e2⟩

theorem still_slice {o : Oper} {t : TypeId} {x : Operand} {lo hi : Option Operand} (ho : o.op = .slice t x lo hi none) (h : RelAt w0 S0 own X N m cap S st a w) {v : AV} {f : Eff}
    (hv : sliceO (tkind P t) (st.ev x) (lo.map fun o => intA (st.ev o)) (hi.map fun o => intA (st.ev o)) = some (v, f)) : f = [] ∧ ∃ u, Still P o a w u ∧ AVrep w S m cap st.ob v u := by
  obtain ⟨e1, l, r, hl, hr, hs⟩ := sliceO_inv h hv
  refine ⟨e1, ?_⟩
  have hx := h.ev x
  have fin : ∀ u, (P.underlying t = some .string ∨ ∃ e, P.underlying t = some (.slice e)) → (Instr.slice t (a.eval x) (lo.map a.eval) (hi.map a.eval) none).run P w = .ok u w → Still P o a w u := fun u hd hu => by
    have : (Instr.sliceAt t (a.eval x) (lo.map a.eval) (hi.map a.eval) none).run P w = .ok u w := by
      rcases hd with hd | ⟨e, hd⟩ <;> simp [Instr.sliceAt, run_underlying hd, hu]
    simp [Still, execOp, ho, this]
  unfold sliceA at hs
  split at hs
  · rename_i s hk hp
    rw [hp] at hx
    obtain ⟨hx, _⟩ := AVrep_v_inv hx
    split at hs
    · rename_i hc
      obtain ⟨c1, c2, c3⟩ := hc
      cases hs
      refine ⟨_, fin _ (.inl (tkind_str hk)) ?_, AVrep_v rfl⟩
      unfold Instr.slice
      rw [hx]
      simp [run_underlying (tkind_str hk), run_bounds false s.size s.size w hl hr c1 c2 c3 (Nat.le_refl _)]
    · cases hs
  · rename_i size es hk hp
    obtain ⟨e, i, k1, k2, k3⟩ := tkind_sl hk
    rw [hp] at hx
    unfold AVrep Trep at hx
    obtain ⟨A, n, c, x1, x2, x3, x4, x5⟩ := hx
    split at hs
    · rename_i hc
      obtain ⟨c0, c1, c2, c3⟩ := hc
      cases hs
      subst x2
      refine ⟨_, fin _ (.inr ⟨e, k1⟩) (by unfold Instr.slice; rw [x1]; simp only [Sem.run_bind, run_underlying k1, Result.andThen_ok, run_bounds true es.length c w hl hr c1 c2 c3 x3, runT_sizeOf k2, Sem.run_pure]; rfl), ?_⟩
      unfold AVrep Trep
      have hwl : (window es (l.getD 0).toNat (r.getD es.length - l.getD 0).toNat).length = (r.getD es.length).toNat - (l.getD 0).toNat := by
        unfold window
        rw [List.length_take, List.length_drop]
        omega
      refine ⟨_, _, _, rfl, hwl, by omega, by omega, fun hpos => ?_⟩
      obtain ⟨b, off, sz, y1, y2, y3⟩ := x5 (by omega)
      have hne : c ≠ (l.getD 0).toNat := by omega
      rw [if_neg hne, y1]
      refine ⟨b, off + (l.getD 0).toNat * i.size, sz, by simp [add_none], y2, ?_⟩
      rw [Ereps_iff] at y3 ⊢
      intro j el hj
      unfold window at hj
      rw [List.getElem?_take] at hj
      split at hj
      · rw [List.getElem?_drop] at hj
        obtain ⟨z1, z2⟩ := y3 _ el hj
        have hsz : sz = i.size := by
          have := List.all_eq_true.1 c0 el (List.mem_of_getElem? hj)
          simp only [beq_iff_eq] at this
          rw [← z1, this, k3]
        subst hsz
        refine ⟨z1, ?_⟩
        rw [Nat.add_mul, ← Nat.add_assoc] at z2
        exact z2
      · cases hj
    · cases hs
  · rename_i size id sz i0 n hk hp
    obtain ⟨e, i, k1, k2, k3⟩ := tkind_sl hk
    rw [hp] at hx
    unfold AVrep at hx
    obtain ⟨A, c, x1, x2, x3, x4, x5, x6⟩ := hx
    split at hs
    · rename_i hc
      obtain ⟨c0, c1, c2, c3⟩ := hc
      cases hs
      subst c0
      refine ⟨_, fin _ (.inr ⟨e, k1⟩) (by unfold Instr.slice; rw [x1]; simp only [Sem.run_bind, run_underlying k1, Result.andThen_ok, run_bounds true n c w hl hr c1 c2 c3 x2, runT_sizeOf k2, Sem.run_pure]; rfl), ?_⟩
      unfold AVrep
      have hsub : (r.getD n - l.getD 0).toNat = (r.getD n).toNat - (l.getD 0).toNat := by omega
      rw [hsub]
      refine ⟨_, _, rfl, by omega, by omega, fun hpos => ?_, x5, fun sz' es hes => ?_⟩
      · obtain ⟨A', hA⟩ := x4 (by omega)
        rw [if_neg (by omega), hA]
        exact ⟨_, rfl⟩
      · obtain ⟨g1, g2, g3, g4, g5⟩ := x6 sz' es hes
        refine ⟨g1, by omega, by omega, fun hpos => ?_, fun hz => ?_⟩
        · rw [if_neg (by omega), g4 (by omega)]
          simp [add_none, Nat.add_mul, k3]
        · obtain ⟨g6, g7⟩ := g5 (by omega)
          have hl0 : (l.getD 0).toNat = 0 := by omega
          rw [hl0]
          refine ⟨?_, by omega⟩
          split
          · exact g6
          · rw [g6]; simp [add_none]
    · cases hs
  · cases hs

end Cal

/- A calculus of our own: maps, function values, interfaces: the model does what the evaluator says. No program is named here. -/
set_option linter.unusedSimpArgs false
set_option linter.unusedVariables false
namespace Cal
open Go Go.RowKit Go.Maps

variable {P : Program} {w0 w : World} {S0 S : Nat → Prop} {own : List Nat} {X : Nat → Value} {N : Nat} {m cap : Id → Nat} {st : St} {a : Act}

theorem minf_inv {t : TypeId} {mi : MI} (h : minf P t = some mi) : ∃ e, P.underlying t = some (.map mi.kt e) ∧ plain mi.zero = true ∧ (∀ w, (zeroValue e).run P w = .ok mi.zero w) ∧ Keyed P mi.kt ∧ ∀ k : MK, k.kind = mi.kd → k.fine = true → (keyOf P mi.kt k.val).isSome = true := by
  classical
  unfold minf at h
  split at h
  · rename_i hg
    obtain ⟨K, hk⟩ := hg mi h
    unfold minf0 at h
    split at h
    · rename_i kt e hu
      split at h
      · rename_i kd i z h1 h2 h3
        split at h
        · rename_i hp
          cases h
          refine ⟨e, hu, hp.2, fun w => ?_, K, hk⟩
          cases hi : P.info? e with
          | none => simp [hi] at h3
          | some inf =>
            simp only [hi, Option.bind_some] at h3
            simp [zeroValue, typeInfo, hi, h3]
        · cases h
      · cases h
    · cases h
  · cases h

theorem MK.val_inj {k k' : MK} (h : k.val = k'.val) : k = k' := by
  cases k <;> cases k' <;> simp_all [MK.val]

theorem keyA_rep {kd : Nat} {v : AV} {k : MK} {u : Value} {ob : Id → Option Ob} (h : keyA kd v = some k) (hu : AVrep w S m cap ob v u) : u = k.val ∧ k.kind = kd ∧ k.fine = true := by
  unfold keyA at h
  split at h
  · split at h
    · rename_i hf
      cases h
      exact ⟨(AVrep_v_inv hu).1, rfl, hf⟩
    · cases h
  · split at h
    · rename_i hf
      cases h
      unfold AVrep at hu
      obtain ⟨us, rfl, hr⟩ := hu
      unfold AVreps at hr
      obtain ⟨x, us1, rfl, h1, hr⟩ := hr
      unfold AVreps at hr
      obtain ⟨y, us2, rfl, h2, hr⟩ := hr
      unfold AVreps at hr
      subst hr
      obtain ⟨rfl, _⟩ := AVrep_v_inv h1
      obtain ⟨rfl, _⟩ := AVrep_v_inv h2
      exact ⟨rfl, rfl, hf⟩
    · cases h
  · split at h
    · rename_i hf
      cases h
      unfold AVrep at hu
      obtain ⟨us, rfl, hr⟩ := hu
      unfold AVreps at hr
      obtain ⟨x, us1, rfl, h1, hr⟩ := hr
      unfold AVreps at hr
      obtain ⟨y, us2, rfl, h2, hr⟩ := hr
      unfold AVreps at hr
      obtain ⟨y3, us3, rfl, h3, hr⟩ := hr
      unfold AVreps at hr
      subst hr
      obtain ⟨rfl, _⟩ := AVrep_v_inv h1
      obtain ⟨rfl, _⟩ := AVrep_v_inv h2
      obtain ⟨rfl, _⟩ := AVrep_v_inv h3
      exact ⟨rfl, rfl, hf⟩
    · cases h
  · cases h

theorem mget_none {α : Type} {k : MK} : ∀ {kvs : List (MK × α)}, (∀ p ∈ kvs, p.1 ≠ k) → mget kvs k = none
  | [], _ => rfl
  | p :: l, h => by
    unfold mget
    rw [if_neg (h p (by simp)), mget_none fun q hq => h q (by simp [hq])]
theorem mset_none {α : Type} {k : MK} {v : α} : ∀ {kvs : List (MK × α)}, (∀ p ∈ kvs, p.1 ≠ k) → mset kvs k v = kvs ++ [(k, v)]
  | [], _ => rfl
  | p :: l, h => by
    unfold mset
    rw [if_neg (h p (by simp)), mset_none fun q hq => h q (by simp [hq])]
    rfl
theorem mget_at {α : Type} {k : MK} {v : α} : ∀ {kvs : List (MK × α)} {j : Nat}, (kvs.map (·.1)).Nodup → kvs[j]? = some (k, v) → mget kvs k = some v ∧ ∀ v', mset kvs k v' = kvs.set j (k, v')
  | [], j, _, h => by simp at h
  | p :: l, 0, hn, h => by
    simp at h
    subst h
    exact ⟨by simp [mget], fun v' => by simp [mset]⟩
  | p :: l, j + 1, hn, h => by
    simp only [List.map_cons, List.nodup_cons] at hn
    have h' : l[j]? = some (k, v) := by simpa using h
    have hne : p.1 ≠ k := fun e => hn.1 (by rw [e]; exact List.mem_map.2 ⟨_, List.mem_of_getElem? h', rfl⟩)
    obtain ⟨g1, g2⟩ := mget_at hn.2 h'
    exact ⟨by simp [mget, hne, g1], fun v' => by simp [mset, hne, g2]⟩

/-- Looking for a key. -/
theorem find_key {kt : TypeId} {kd : Nat} (K : Keyed P kt) (hk : ∀ k : MK, k.kind = kd → k.fine = true → (keyOf P kt k.val).isSome = true) {es : Array MapEntry} {ks : List MK} (hes : es.toList.map (·.key) = ks.map MK.val) (hok : ∀ k ∈ ks, k.kind = kd ∧ k.fine = true)
    {k : MK} (h1 : k.kind = kd) (h2 : k.fine = true) (w : World) : ((Instr.findKey kt k.val es.toList).run P w = .ok none w ∧ k ∉ ks) ∨ ∃ j e, (Instr.findKey kt k.val es.toList).run P w = .ok (some (j, e.val)) w ∧ es[j]? = some e ∧ e.key = k.val ∧ ks[j]? = some k := by
  obtain ⟨l, hl⟩ := Option.isSome_iff_exists.1 (hk k h1 h2)
  have hall : ∀ e ∈ es.toList, ∃ l, keyOf P kt e.key = some l := fun e he => by
    have : e.key ∈ ks.map MK.val := by rw [← hes]; exact List.mem_map.2 ⟨e, he, rfl⟩
    obtain ⟨k', hk', e1⟩ := List.mem_map.1 this
    rw [← e1]
    exact Option.isSome_iff_exists.1 (hk k' (hok k' hk').1 (hok k' hk').2)
  rcases K.find w hl es.toList hall with ⟨g1, g2⟩ | ⟨j, e, g1, g2, g3⟩
  · refine .inl ⟨g1, fun hm => ?_⟩
    have : k.val ∈ es.toList.map (·.key) := by rw [hes]; exact List.mem_map.2 ⟨k, hm, rfl⟩
    obtain ⟨e, he, e1⟩ := List.mem_map.1 this
    exact g2 e he e1
  · refine .inr ⟨j, e, g1, by rw [← Array.getElem?_toList]; exact g2, g3, ?_⟩
    have : (es.toList.map (·.key))[j]? = some k.val := by rw [List.getElem?_map, g2, ← g3]; rfl
    rw [hes, List.getElem?_map] at this
    cases hj : ks[j]? with
    | none => simp [hj] at this
    | some k' =>
      simp only [hj, Option.map_some, Option.some.injEq] at this
      rw [MK.val_inj this]

theorem look_none {t e : TypeId} {mi : MI} (hu : P.underlying t = some (.map mi.kt e)) (hz : ∀ w, (zeroValue e).run P w = .ok mi.zero w) (K : Keyed P mi.kt) (hk : ∀ k : MK, k.kind = mi.kd → k.fine = true → (keyOf P mi.kt k.val).isSome = true) (ok : Bool) {k : MK} (h1 : k.kind = mi.kd) (h2 : k.fine = true) :
    (Instr.lookup t (.map none) k.val ok).run P w = .ok (if ok then .tuple #[mi.zero, .bool false] else mi.zero) w := by
  obtain ⟨l, hl⟩ := Option.isSome_iff_exists.1 (hk k h1 h2)
  rcases find_key K hk (es := #[]) (ks := []) rfl (by simp) h1 h2 w with ⟨g1, g2⟩ | ⟨j, e, g1, g2, g3, g4⟩
  · simp [Instr.lookup, run_underlying hu, K.check w _ hl, g1, hz, Result.andThen]
  · simp at g4

theorem look_at {t e : TypeId} {mi : MI} (hu : P.underlying t = some (.map mi.kt e)) (hz : ∀ w, (zeroValue e).run P w = .ok mi.zero w) (K : Keyed P mi.kt) (hk : ∀ k : MK, k.kind = mi.kd → k.fine = true → (keyOf P mi.kt k.val).isSome = true) (ok : Bool) {k : MK} (h1 : k.kind = mi.kd) (h2 : k.fine = true)
    {b : Nat} {ks : List MK} {vs : List Value} (hm : MapAt w b mi.kd ks vs) :
    ((Instr.lookup t (.map (some b)) k.val ok).run P w = .ok (if ok then .tuple #[mi.zero, .bool false] else mi.zero) w ∧ k ∉ ks) ∨
      ∃ (j : Nat) (u : Value), (Instr.lookup t (.map (some b)) k.val ok).run P w = .ok (if ok then .tuple #[u, .bool true] else u) w ∧ ks[j]? = some k ∧ vs[j]? = some u := by
  obtain ⟨⟨es, c, m1, m2, m3, _⟩, m4, m5⟩ := hm
  obtain ⟨l, hl⟩ := Option.isSome_iff_exists.1 (hk k h1 h2)
  rcases find_key K hk m2 m5 h1 h2 w with ⟨g1, g2⟩ | ⟨j, e, g1, g2, g3, g4⟩
  · exact .inl ⟨by simp [Instr.lookup, run_underlying hu, MapKept.run_getObj_map m1, K.check w _ hl, g1, hz, Result.andThen], g2⟩
  · refine .inr ⟨j, e.val, by simp [Instr.lookup, run_underlying hu, MapKept.run_getObj_map m1, K.check w _ hl, g1, Result.andThen], g4, ?_⟩
    rw [← m3, List.getElem?_map, Array.getElem?_toList, g2]
    rfl

/-- What a lookup gives stands for the value. -/
theorem lookR_rep {ob : Id → Option Ob} {ok : Bool} {z : Value} (hz : plain z = true) {o : Option AV} {u : Value} (hn : o = none → u = z) (hs : ∀ v, o = some v → AVrep w S m cap ob v u) :
    AVrep w S m cap ob (lookR ok z o) (if ok then .tuple #[u, .bool o.isSome] else u) := by
  have hv : AVrep w S m cap ob (o.getD (.t (.v z))) u := by
    cases o with
    | none => rw [hn rfl]; exact AVrep_v hz
    | some v => exact hs v rfl
  unfold lookR
  cases ok with
  | false => simpa using hv
  | true =>
    simp only [if_true]
    unfold AVrep
    refine ⟨[u, .bool o.isSome], rfl, ?_⟩
    unfold AVreps
    refine ⟨_, _, rfl, hv, ?_⟩
    unfold AVreps
    exact ⟨_, _, rfl, AVrep_v rfl, by unfold AVreps; rfl⟩

theorem mget_mem {α : Type} {k : MK} : ∀ {kvs : List (MK × α)} {v : α}, mget kvs k = some v → (k, v) ∈ kvs
  | [], v, h => by simp [mget] at h
  | p :: l, v, h => by
    unfold mget at h
    split at h
    · rename_i e; cases h; simp [← e]
    · simp [mget_mem h]

theorem still_lookup {o : Oper} {t : TypeId} {x k : Operand} {ok : Bool} (ho : o.op = .lookup t x k ok) (h : RelAt w0 S0 own X N m cap S st a w) {v : AV} {f : Eff} (hv : lookA st (minf P t) ok (st.ev x) (st.ev k) = some (v, f)) :
    ∃ u, Still P o a w u ∧ AVrep w S m cap st.ob v u ∧ f = [] := by
  have hx := h.ev x
  have hk := h.ev k
  unfold lookA at hv
  split at hv
  · cases hv
  · rename_i mi hmi
    obtain ⟨e, hu, hp, hz, K, hkk⟩ := minf_inv hmi
    split at hv
    · cases hv
    · rename_i key hkey
      obtain ⟨k1, k2, k3⟩ := keyA_rep hkey hk
      have main : ∀ (b : Nat) (ks : List MK) (kvs : List (MK × AV)) (vs : List Value), a.eval x = .map (some b) → MapAt w b mi.kd (kvs.map (·.1)) vs → AVreps w S m cap st.ob (kvs.map (·.2)) vs → ∃ u, Still P o a w u ∧ AVrep w S m cap st.ob (lookR ok mi.zero (mget kvs key)) u := by
        intro b ks kvs vs hax hm hr
        rcases look_at hu hz K hkk ok k2 k3 hm with ⟨g1, g2⟩ | ⟨j, u, g1, g2, g3⟩
        · have hn : mget kvs key = none := mget_none fun p hp e => g2 (e ▸ List.mem_map.2 ⟨p, hp, rfl⟩)
          refine ⟨_, by simp [Still, execOp, ho, hax, k1, g1]; rfl, ?_⟩
          have := lookR_rep (w := w) (S := S) (m := m) (cap := cap) (ob := st.ob) (ok := ok) hp (o := mget kvs key) (u := mi.zero) (fun _ => rfl) (fun v hv => by rw [hn] at hv; cases hv)
          rw [hn] at this ⊢
          exact this
        · rw [List.getElem?_map] at g2
          cases hj : kvs[j]? with
          | none => simp [hj] at g2
          | some p =>
            simp only [hj, Option.map_some, Option.some.injEq] at g2
            obtain ⟨pk, pv⟩ := p
            simp only at g2
            subst g2
            obtain ⟨q1, _⟩ := mget_at hm.2.1 hj
            have hrv := (AVreps_iff.1 hr).2 j pv u (by rw [List.getElem?_map, hj]; rfl) g3
            refine ⟨_, by simp [Still, execOp, ho, hax, k1, g1]; rfl, ?_⟩
            have := lookR_rep (w := w) (S := S) (m := m) (cap := cap) (ob := st.ob) (ok := ok) hp (o := mget kvs pk) (u := u) (fun hh => by rw [q1] at hh; cases hh) (fun v hv => by rw [q1] at hv; cases hv; exact hrv)
            rw [q1] at this ⊢
            exact this
      have flat : ∀ (b : Nat) (r : List (MK × Value)), a.eval x = .map (some b) → MapAt w b mi.kd (r.map (·.1)) (r.map (·.2)) → (∀ p ∈ r, plain p.2 = true) → ∃ u, Still P o a w u ∧ AVrep w S m cap st.ob (lookR ok mi.zero ((mget r key).map fun x => .t (.v x))) u := by
        intro b r hax hm hpl
        have hg : mget (r.map fun p => (p.1, AV.t (.v p.2))) key = (mget r key).map fun x => .t (.v x) := by
          clear hm hpl
          induction r with
          | nil => rfl
          | cons p r ih =>
            simp only [List.map_cons, mget]
            split
            · rfl
            · exact ih
        rw [← hg]
        refine main b [] _ (r.map (·.2)) hax ?_ (vals_flat_rep hpl)
        rw [List.map_map]
        exact hm
      split at hv
      · rename_i hxe
        cases hv
        rw [hxe] at hx
        obtain ⟨hx, _⟩ := AVrep_v_inv hx
        refine ⟨_, by simp [Still, execOp, ho, hx, k1, look_none hu hz K hkk ok k2 k3]; rfl, ?_, rfl⟩
        exact lookR_rep hp (o := none) (fun _ => rfl) (fun v hv => by cases hv)
      · rename_i kd kvs hxe
        split at hv
        · rename_i hkd
          cases hv
          rw [hxe] at hx
          unfold AVrep Trep at hx
          obtain ⟨b, x1, x2, x3, x4⟩ := hx
          subst hkd
          obtain ⟨u, g1, g2⟩ := flat b kvs x1 x3 x4
          exact ⟨u, g1, g2, rfl⟩
        · cases hv
      · rename_i id hxe
        rw [hxe] at hx
        unfold AVrep at hx
        obtain ⟨b, x1, x2⟩ := hx
        split at hv
        · rename_i kd kvs hob
          split at hv
          · rename_i hkd
            cases hv
            subst hkd
            obtain ⟨⟨us, g1, g2⟩, _⟩ := h.obs id _ hob
            have hb : b = m id := x2 (by rw [hob]; simp)
            subst hb
            obtain ⟨u, g3, g4⟩ := main _ [] kvs us x1 g1 g2
            exact ⟨u, g3, g4, rfl⟩
          · cases hv
        · rename_i kd kvs hob
          split at hv
          · rename_i hkd
            cases hv
            subst hkd
            obtain ⟨⟨g1, g2⟩, _⟩ := h.obs id _ hob
            have hb : b = m id := x2 (by rw [hob]; simp)
            subst hb
            obtain ⟨u, g3, g4⟩ := flat _ kvs x1 g1 g2
            exact ⟨u, g3, g4, rfl⟩
          · cases hv
        · cases hv
      · cases hv

theorem still_makeFunc {o : Oper} {f : FuncId} {xs ys : Array Operand} (ho : o.op = .makeFunc (.func f) xs ys) (h : RelAt w0 S0 own X N m cap S st a w) :
    ∃ u, Still P o a w u ∧ AVrep w S m cap st.ob (.clo f (xs.toList.map st.ev) (ys.toList.map st.ev)) u := by
  refine ⟨.func (.func f) (xs.map a.eval) (ys.map a.eval), by simp [Still, execOp, ho, Instr.makeFunc], ?_⟩
  have evs : ∀ l : List Operand, AVreps w S m cap st.ob (l.map st.ev) (l.map a.eval) := by
    intro l
    induction l with
    | nil => simp [AVreps]
    | cons x l ih =>
      simp only [List.map_cons]
      unfold AVreps
      exact ⟨_, _, rfl, h.ev x, ih⟩
  unfold AVrep
  refine ⟨xs.toList.map a.eval, ys.toList.map a.eval, ?_, evs _, evs _⟩
  congr 1 <;> (apply Array.toList_inj.1; simp)

theorem still_makeInterface {o : Oper} {t : TypeId} {x : Operand} (ho : o.op = .makeInterface t x) (hs : solid (P.underlying t) = true) (h : RelAt w0 S0 own X N m cap S st a w) :
    ∃ u, Still P o a w u ∧ AVrep w S m cap st.ob (.ifc t (st.ev x)) u := by
  refine ⟨.iface t (a.eval x), ?_, by unfold AVrep; exact ⟨_, rfl, h.ev x⟩⟩
  cases hu : P.underlying t with
  | none => rw [hu] at hs; cases hs
  | some d =>
    rw [hu] at hs
    cases d <;> first | (cases hs; done) | simp [Still, execOp, ho, Instr.makeInterface, run_underlying hu]

theorem still_typeAssert {o : Oper} {xt u : TypeId} {x : Operand} {v : AV} (ho : o.op = .typeAssert x xt u false) (hv : assertA (solid (P.underlying u)) u (st.ev x) = some v) (h : RelAt w0 S0 own X N m cap S st a w) :
    ∃ r, Still P o a w r ∧ AVrep w S m cap st.ob v r := by
  have he := h.ev x
  unfold assertA at hv
  split at hv
  · rename_i t y hy
    split at hv
    · rename_i hs
      cases hv
      rw [hy] at he
      unfold AVrep at he
      obtain ⟨r, e, hr⟩ := he
      refine ⟨r, ?_, hr⟩
      obtain ⟨rfl, hs⟩ := hs
      cases hu : P.underlying t with
      | none => rw [hu] at hs; cases hs
      | some d =>
        rw [hu] at hs
        cases d <;> first | (cases hs; done) | simp [Still, execOp, ho, Instr.typeAssert, run_underlying hu, e]
    · cases hv
  · cases hv

theorem gives_makeMap {o : Oper} {t : TypeId} (ho : o.op = .makeMap t none) (h : RelAt w0 S0 own X N m cap S st a w) {d : Nat} (hf : st.Free (·.1 = d)) (kd : Nat) :
    ∃ u w' m' cap', Gives P o a w u w' ∧ RelAt w0 S0 own X N m' cap' S (st.setOb (d, 0) (some (.map kd []))) a w' ∧ AVrep w' S m' cap' (st.setOb (d, 0) (some (.map kd []))).ob (.mp (d, 0)) u ∧ Far d m m' cap cap' := by
  have hf1 : st.Free (· = (d, 0)) := hf.mono fun id hid => by rw [hid]
  have hb : (w.alloc (.map #[] 0)).heap[w.heap.size]? = some (.map #[] 0) := by show (w.heap.push _)[w.heap.size]? = _; simp
  refine ⟨.map (some w.heap.size), w.alloc (.map #[] 0), _, _, .inl (by simp [execOp, ho, Instr.makeMap, newObj, Sem.run]), h.new (c := 0) hf1 ⟨⟨[], ⟨⟨#[], 0, by rw [upd_same]; exact hb, rfl, rfl, by simp [Stamped]⟩, by simp, by simp⟩, by simp [AVreps]⟩, ?_⟩, ?_, Far.upd _ _ _ _ _ _⟩
  · rw [upd_same]; exact fun hs => Nat.lt_irrefl _ (h.stab _ hs)
  · unfold AVrep
    exact ⟨_, rfl, fun _ => by rw [upd_same]⟩

theorem mset_keys {α : Type} {k : MK} {v : α} : ∀ {kvs : List (MK × α)}, (mset kvs k v).map (·.1) = if k ∈ kvs.map (·.1) then kvs.map (·.1) else kvs.map (·.1) ++ [k]
  | [] => by simp [mset]
  | p :: l => by
    unfold mset
    split
    · rename_i e; simp [e]
    · rename_i e
      simp only [List.map_cons, mset_keys (kvs := l), List.mem_cons]
      have : ¬ k = p.1 := fun h => e h.symm
      simp only [this, false_or]
      split <;> simp

theorem gives_mapUpdate {o : Oper} {t : TypeId} {x k y : Operand} (ho : o.op = .mapUpdate t x k y) (h : RelAt w0 S0 own X N m cap S st a w) {f : Eff} (hv : mupA st (minf P t) (st.ev x) (st.ev k) (st.ev y) = some f) :
    ∃ w', Gives P o a w undef w' ∧ RelAt w0 S0 own X N m cap S (st.eff f) a w' := by
  have hx := h.ev x
  have hk := h.ev k
  have hy := h.ev y
  have gv : ∀ {w' : World}, (Instr.mapUpdate t (a.eval x) (a.eval k) (a.eval y)).run P w = .ok () w' → Gives P o a w undef w' := fun hr => .inr ⟨by simp [execOp, ho, hr], rfl⟩
  unfold mupA at hv
  split at hv
  · cases hv
  · rename_i mi hmi
    obtain ⟨e, hu, hp, hz, K, hkk⟩ := minf_inv hmi
    split at hv
    · cases hv
    · rename_i key hkey
      obtain ⟨k1, k2, k3⟩ := keyA_rep hkey hk
      obtain ⟨l, hl⟩ := Option.isSome_iff_exists.1 (hkk key k2 k3)
      split at hv
      · rename_i id hxe
        rw [hxe] at hx
        unfold AVrep at hx
        obtain ⟨b, x1, x2⟩ := hx
        split at hv
        · rename_i kd kvs hob
          split at hv
          · rename_i hc
            obtain ⟨hkd, hone⟩ := hc
            cases hv
            subst hkd
            have hb : b = m id := x2 (by rw [hob]; simp)
            subst hb
            obtain ⟨⟨us, hm, hr⟩, hS⟩ := h.obs id _ hob
            have hm0 := hm
            obtain ⟨⟨es, c, m1, m2, m3, m6⟩, m4, m5⟩ := hm
            have hle : Ob.leads (some (.map mi.kd kvs)) (some (.map mi.kd (mset kvs key (st.ev y)))) := ⟨rfl, fun h => h⟩
            have ht2 : Turn (fun _ => False) m m cap cap st.ob (st.setOb id (some (.map mi.kd (mset kvs key (st.ev y))))).ob := by
              refine ⟨fun i _ => ?_, fun i _ => ⟨rfl, rfl⟩⟩
              by_cases e : i = id
              · subst e; simp only [St.setOb, if_true]; rw [hob]; exact hle
              · simp only [St.setOb, if_neg e]; exact Ob.leads_refl _
            have hblt : m id < w.heap.size := (Array.getElem?_eq_some_iff.1 m1).1
            have key2 : ∀ (es' : Array MapEntry) (c' : Nat), (Instr.mapUpdate t (.map (some (m id))) key.val (a.eval y)).run P w = .ok () { w with heap := w.heap.setIfInBounds (m id) (.map es' c') } →
                es'.toList.map (·.key) = ((mset kvs key (st.ev y)).map (·.1)).map MK.val → ((mset kvs key (st.ev y)).map (·.1)).Nodup → (∀ k' ∈ (mset kvs key (st.ev y)).map (·.1), k'.kind = mi.kd ∧ k'.fine = true) →
                AVreps w S m cap st.ob ((mset kvs key (st.ev y)).map (·.2)) (es'.toList.map (·.val)) → Stamped es' c' → ∃ w', Gives P o a w undef w' ∧ RelAt w0 S0 own X N m cap S (st.eff [(id, some (.map mi.kd (mset kvs key (st.ev y))))]) a w' := by
              intro es' c' hrun n1 n2 n3 n4 n5
              have hget : ∀ j, ({ w with heap := w.heap.setIfInBounds (m id) (.map es' c') } : World).heap[j]? = if j = m id then some (.map es' c') else w.heap[j]? := fun j => by
                show (w.heap.setIfInBounds (m id) (.map es' c'))[j]? = _
                rw [Array.getElem?_setIfInBounds]
                by_cases hj : m id = j
                · subst hj; simp [hblt]
                · rw [if_neg hj, if_neg (fun e => hj e.symm)]
              have hsame : Same S w { w with heap := w.heap.setIfInBounds (m id) (.map es' c') } := fun b hb => by
                rw [hget, if_neg]
                rintro rfl
                exact hS hb
              refine ⟨_, gv (by rw [x1, k1]; exact hrun), ?_⟩
              refine h.wrote hob hS hle (fun j hj => by rw [hget, if_neg hj]) rfl rfl rfl (by simp) ⟨⟨es'.toList.map (·.val), ⟨⟨es', c', by rw [hget, if_pos rfl], n1, rfl, n5⟩, n2, n3⟩, ?_⟩, hS⟩
              exact AVreps.keep hsame (fun _ hb => hb) ht2 _ _ (AV.frees_false _) n4
            have hlen : us.length = kvs.length := by have := hr.len; rw [List.length_map] at this; exact this
            rcases find_key K hkk m2 m5 k2 k3 w with ⟨g1, g2⟩ | ⟨j, e0, g1, g2, g3, g4⟩
            · have hno : ∀ p ∈ kvs, p.1 ≠ key := fun p hp' he => g2 (List.mem_map.2 ⟨p, hp', he⟩)
              have hset := mset_none (v := st.ev y) hno
              refine key2 (es.push ⟨key.val, a.eval y, c⟩) (c + 1) ?_ ?_ ?_ ?_ ?_ ?_
              · simp [Instr.mapUpdate, run_underlying hu, MapKept.run_getObj_map m1, K.check w false hl, g1, MapKept.run_setObj_map _ m1, Result.andThen]
              · rw [hset]
                simp only [Array.toList_push, List.map_append, m2]
                rfl
              · rw [hset, List.map_append]
                exact List.nodup_append.2 ⟨m4, by simp, by rintro x hx y hy rfl; simp at hy; subst hy; exact g2 hx⟩
              · rw [hset]
                intro k' hk'
                rw [List.map_append, List.mem_append] at hk'
                rcases hk' with hk' | hk'
                · exact m5 k' hk'
                · simp at hk'; subst hk'; exact ⟨k2, k3⟩
              · rw [hset, List.map_append, Array.toList_push, List.map_append, m3]
                refine AVreps_append2 hr ?_
                simp only [List.map_cons, List.map_nil]
                unfold AVreps
                exact ⟨_, _, rfl, hy, by unfold AVreps; rfl⟩
              · refine ⟨fun x hx => ?_, ?_⟩
                · rw [Array.toList_push, List.mem_append] at hx
                  rcases hx with hx | hx
                  · have := m6.1 x hx
                    omega
                  · simp at hx
                    subst hx
                    simp
                · rw [Array.toList_push, List.map_append]
                  refine List.nodup_append.2 ⟨m6.2, by simp, ?_⟩
                  rintro x hx y hy rfl
                  simp at hy
                  subst hy
                  obtain ⟨e, he, e1⟩ := List.mem_map.1 hx
                  have := m6.1 e he
                  omega
            · rw [List.getElem?_map] at g4
              cases hj : kvs[j]? with
              | none => simp [hj] at g4
              | some p =>
                simp only [hj, Option.map_some, Option.some.injEq] at g4
                obtain ⟨pk, pv⟩ := p
                simp only at g4
                subst g4
                obtain ⟨_, hset⟩ := mget_at m4 hj
                have hset := hset (st.ev y)
                have hjl : j < kvs.length := (List.getElem?_eq_some_iff.1 hj).1
                have hjs : j < es.size := (Array.getElem?_eq_some_iff.1 g2).1
                have hkeys : (mset kvs pk (st.ev y)).map (·.1) = kvs.map (·.1) := by
                  rw [mset_keys, if_pos (List.mem_map.2 ⟨_, List.mem_of_getElem? hj, rfl⟩)]
                have hstay := K.stays w hl
                refine key2 (es.modify j fun e => { e with key := pk.val, val := a.eval y }) c ?_ ?_ ?_ ?_ ?_ ?_
                · simp [Instr.mapUpdate, run_underlying hu, MapKept.run_getObj_map m1, K.check w false hl, g1, g2, g3, hstay, MapKept.run_setObj_map _ m1, Result.andThen]
                · rw [hkeys, ← m2]
                  apply List.ext_getElem?
                  intro q
                  rw [List.getElem?_map, List.getElem?_map, Array.getElem?_toList, Array.getElem?_toList, Array.getElem?_modify]
                  by_cases hq : j = q
                  · subst hq; rw [if_pos rfl, g2]; simp [g3]
                  · rw [if_neg hq]
                · rw [hkeys]; exact m4
                · rw [hkeys]; exact m5
                · rw [hset, AVreps_iff]
                  rw [AVreps_iff] at hr
                  have hl1 : es.size = kvs.length := by
                    have := congrArg List.length m3
                    rw [List.length_map, Array.length_toList] at this
                    omega
                  refine ⟨by simp [hl1], fun q v u hv hu' => ?_⟩
                  rw [List.getElem?_map] at hv
                  rw [List.getElem?_map, Array.getElem?_toList, Array.getElem?_modify] at hu'
                  by_cases hq : j = q
                  · subst hq
                    rw [List.getElem?_set_self hjl] at hv
                    rw [if_pos rfl, g2] at hu'
                    simp at hv hu'
                    subst hv hu'
                    exact hy
                  · rw [List.getElem?_set_ne hq] at hv
                    rw [if_neg hq] at hu'
                    refine hr.2 q v u (by rw [List.getElem?_map]; exact hv) ?_
                    rw [← m3, List.getElem?_map, Array.getElem?_toList]
                    exact hu'
                · have hborn : (es.modify j fun e => { e with key := pk.val, val := a.eval y }).toList.map (·.born) = es.toList.map (·.born) := by
                    apply List.ext_getElem?
                    intro q
                    rw [List.getElem?_map, List.getElem?_map, Array.getElem?_toList, Array.getElem?_toList, Array.getElem?_modify]
                    by_cases hq : j = q
                    · subst hq; rw [if_pos rfl, g2]; simp
                    · rw [if_neg hq]
                  refine ⟨fun x hx => ?_, by rw [hborn]; exact m6.2⟩
                  have : x.born ∈ es.toList.map (·.born) := by rw [← hborn]; exact List.mem_map.2 ⟨x, hx, rfl⟩
                  obtain ⟨e, he, e1⟩ := List.mem_map.1 this
                  rw [← e1]
                  exact m6.1 e he
          · cases hv
        · cases hv
      · cases hv

end Cal

/- A calculus of our own, twentieth part: what an operation may touch, and of what it depends. No program is named here. -/
set_option linter.unusedSimpArgs false
set_option linter.unusedVariables false
namespace Cal
open Go Go.RowKit

variable {P : Program} {st st2 : St}

/-! ### what is touched -/

/-- Only these objects are touched. -/
def Eff.at (q : Id → Prop) (f : Eff) : Prop := ∀ e ∈ f, q e.1

theorem Eff.at_nil (q : Id → Prop) : Eff.at q [] := by simp [Eff.at]
theorem Eff.at_append {q : Id → Prop} {f g : Eff} (h : Eff.at q f) (k : Eff.at q g) : Eff.at q (f ++ g) := fun e he => by
  rcases List.mem_append.1 he with he | he
  · exact h e he
  · exact k e he
theorem Eff.at_mono {q q' : Id → Prop} {f : Eff} (h : Eff.at q f) (hq : ∀ id, q id → q' id) : Eff.at q' f := fun e he => hq _ (h e he)
theorem Eff.at_one {q : Id → Prop} {id : Id} {o : Option Ob} (h : q id) : Eff.at q [(id, o)] := by simp [Eff.at, h]

/-- Nothing is put in that names objects. -/
def Eff.cold (f : Eff) : Prop := ∀ e ∈ f, ∀ o, e.2 = some o → o.avs = []

theorem frzEff_at (v : AV) : Eff.at (fun id => st.ob id ≠ none) (st.frzEff v) ∧ Eff.cold (st.frzEff v) := by
  unfold St.frzEff
  split
  · split
    · rename_i ho
      exact ⟨Eff.at_one (by rw [ho]; simp), by simp [Eff.cold, Ob.avs]⟩
    · exact ⟨Eff.at_nil _, by simp [Eff.cold]⟩
  · split
    · rename_i ho
      split
      · exact ⟨Eff.at_one (by rw [ho]; simp), by simp [Eff.cold, Ob.avs]⟩
      · exact ⟨Eff.at_nil _, by simp [Eff.cold]⟩
    · exact ⟨Eff.at_nil _, by simp [Eff.cold]⟩
  · exact ⟨Eff.at_nil _, by simp [Eff.cold]⟩

theorem frzEffs_at : ∀ vs : List AV, Eff.at (fun id => st.ob id ≠ none) (st.frzEffs vs) ∧ Eff.cold (st.frzEffs vs)
  | [] => ⟨Eff.at_nil _, by simp [Eff.cold, St.frzEffs]⟩
  | v :: vs => by
    obtain ⟨h1, h2⟩ := frzEff_at (st := st) v
    obtain ⟨h3, h4⟩ := frzEffs_at vs
    unfold St.frzEffs
    refine ⟨Eff.at_append h1 h3, fun e he => ?_⟩
    rcases List.mem_append.1 he with he | he
    · exact h2 e he
    · exact h4 e he

theorem litA_at {size : Nat} {ps : List (Nat × Operand)} {k : Nat} {es : List (List T)} {f : Eff} (h : litA st size k ps = some (es, f)) : Eff.at (fun id => st.ob id ≠ none) f ∧ Eff.cold f := by
  obtain ⟨_, h2, _⟩ := litA_inv h
  rw [h2]
  exact frzEffs_at _

/-- What an operation puts into objects names nothing that p has. -/
def Eff.free (p : Id → Prop) (f : Eff) : Prop := ∀ e ∈ f, ∀ o, e.2 = some o → AV.frees p o.avs
theorem Eff.cold.free {f : Eff} (h : Eff.cold f) (p : Id → Prop) : Eff.free p f := fun e he o ho => by rw [h e he o ho]; trivial
theorem Eff.free_nil (p : Id → Prop) : Eff.free p [] := by simp [Eff.free]
theorem Eff.free_append {p : Id → Prop} {f g : Eff} (h : Eff.free p f) (k : Eff.free p g) : Eff.free p (f ++ g) := fun e he => by
  rcases List.mem_append.1 he with he | he
  · exact h e he
  · exact k e he

theorem frees_append {p : Id → Prop} : ∀ {xs ys : List AV}, AV.frees p xs → AV.frees p ys → AV.frees p (xs ++ ys)
  | [], ys, _, h => h
  | x :: xs, ys, h, k => by
    unfold AV.frees at h
    simp only [List.cons_append]
    unfold AV.frees
    exact ⟨h.1, frees_append h.2 k⟩
theorem frees_take {p : Id → Prop} : ∀ {xs : List AV} (n : Nat), AV.frees p xs → AV.frees p (xs.take n)
  | [], n, _ => by simp [AV.frees]
  | x :: xs, 0, _ => by simp [AV.frees]
  | x :: xs, n + 1, h => by
    unfold AV.frees at h
    simp only [List.take_succ_cons]
    unfold AV.frees
    exact ⟨h.1, frees_take n h.2⟩
theorem frees_drop {p : Id → Prop} : ∀ {xs : List AV} (n : Nat), AV.frees p xs → AV.frees p (xs.drop n)
  | [], n, _ => by simp [AV.frees]
  | x :: xs, 0, h => h
  | x :: xs, n + 1, h => by
    unfold AV.frees at h
    simp only [List.drop_succ_cons]
    exact frees_drop n h.2
theorem frees_get {p : Id → Prop} : ∀ {xs : List AV} {i : Nat} {v : AV}, AV.frees p xs → xs[i]? = some v → v.free p
  | [], i, v, _, h => by simp at h
  | x :: xs, 0, v, h, hv => by
    unfold AV.frees at h
    simp at hv
    subst hv
    exact h.1
  | x :: xs, i + 1, v, h, hv => by
    unfold AV.frees at h
    exact frees_get h.2 (by simpa using hv)
theorem frees_over {p : Id → Prop} {cs ns : List AV} {off : Nat} (h : AV.frees p cs) (k : AV.frees p ns) : AV.frees p (over cs off ns) :=
  frees_append (frees_append (frees_take _ h) k) (frees_drop _ h)
theorem free_asOne {p : Id → Prop} {ag : Bool} {cs : List AV} {v : AV} (h : asOne ag cs = some v) (k : AV.frees p cs) : v.free p := by
  unfold asOne at h
  split at h
  · cases h
    unfold AV.free
    exact k
  · split at h
    · cases h
      unfold AV.frees at k
      exact k.1
    · cases h

theorem free_load {p : Id → Prop} (hf : st.Free p) {ag : Bool} {size : Nat} {x v : AV} (h : loadA st ag size x = some v) : v.free p := by
  unfold loadA at h
  split at h
  · split at h
    · rename_i id i j cs ho
      split at h
      · exact free_asOne h (frees_take _ (frees_drop _ (hf.var _ _ ho)))
      · cases h
    · split at h
      · split at h
        · exact free_asOne h (AV.frees_map_t _ _)
        · cases h
      · cases h
    · split at h
      · split at h
        · exact free_asOne h (AV.frees_map_t _ _)
        · cases h
      · cases h
    · rename_i ho
      split at h
      · rename_i e he
        split at h
        · refine free_asOne h (frees_take _ (frees_drop _ (frees_mem fun x hx => ?_)))
          exact mem_frees (hf.avs _ _ ho) x (List.mem_flatten.2 ⟨e, List.mem_of_getElem? he, hx⟩)
        · cases h
      · cases h
    · cases h
  · split at h
    · exact free_asOne h (AV.frees_map_t _ _)
    · cases h
  · cases h

theorem free_fill {p : Id → Prop} (hf : st.Free p) {t : TypeId} : ∀ {ps : List (Nat × Operand)} {zero cs : List AV}, AV.frees p zero → fillA P t st zero ps = some cs → AV.frees p cs
  | [], zero, cs, hz, h => by
    unfold fillA at h
    cases h
    exact hz
  | (i, x) :: ps, zero, cs, hz, h => by
    unfold fillA at h
    split at h
    · split at h
      · exact free_fill hf (frees_over hz (AV.cells_free (hf.ev x))) h
      · cases h
    · cases h

/-- Does it write on objects that others have? (a slice literal: see 'muted') -/
def wr : Op → Bool
  | .store .. => true
  | .mapUpdate .. => true
  | .buildSlice .. => true
  | .call { callee := .builtin .append, .. } => true
  | _ => false

theorem store_at {size : Nat} {x y : AV} {f : Eff} (h : storeA st size x y = some f) : Eff.at (fun id => st.ob id ≠ none) f := by
  unfold storeA at h
  split at h
  · split at h
    · split at h
      · rename_i ho
        split at h
        · cases h; exact Eff.at_one (by rw [ho]; simp)
        · cases h
      · rename_i ho
        split at h
        · split at h
          · cases h; exact Eff.at_append (frzEffs_at _).1 (Eff.at_one (by rw [ho]; simp))
          · cases h
        · cases h
      · rename_i ho
        split at h
        · split at h
          · cases h; exact Eff.at_one (by rw [ho]; simp)
          · cases h
        · cases h
      · cases h
    · cases h
  · cases h

theorem store_free {p : Id → Prop} (hf : st.Free p) {size : Nat} {x y : AV} {f : Eff} (hx : x.free p) (h : storeA st size x y = some f) : Eff.free p f := by
  unfold storeA at h
  split at h
  · split at h
    · split at h
      · rename_i ho
        split at h
        · cases h
          intro e he cs hcs
          simp at he
          subst he
          simp at hcs
          subst hcs
          exact frees_over (hf.var _ _ ho) (AV.cells_free hx)
        · cases h
      · split at h
        · split at h
          · cases h; exact Eff.free_append ((frzEffs_at _).2.free p) (by simp [Eff.free, Ob.avs, AV.frees])
          · cases h
        · cases h
      · rename_i ho
        split at h
        · rename_i e he
          split at h
          · cases h
            intro e' he' o ho'
            simp at he'
            subst he'
            simp at ho'
            subst ho'
            refine frees_mem fun x' hx' => ?_
            obtain ⟨el, hel, hx'⟩ := List.mem_flatten.1 hx'
            have hall := hf.avs _ _ ho
            rcases List.mem_or_eq_of_mem_set hel with h1 | h1
            · exact mem_frees hall x' (List.mem_flatten.2 ⟨el, h1, hx'⟩)
            · subst h1
              refine mem_frees (frees_over (frees_mem fun y hy => ?_) (AV.cells_free hx)) x' hx'
              exact mem_frees hall y (List.mem_flatten.2 ⟨e, List.mem_of_getElem? he, hy⟩)
          · cases h
        · cases h
      · cases h
    · cases h
  · cases h

theorem append_at {d : Nat} {i : TI} {s : AV} {es : List (List T)} {v : AV} {f : Eff} (h : appendA d st i s es = some (v, f)) : Eff.at (fun id => id = (d, 0) ∨ st.ob id ≠ none) f ∧ (∀ p, Eff.free p f) ∧ ∀ p : Id → Prop, ¬ p (d, 0) → v.free p := by
  unfold appendA at h
  split at h
  · cases h
  split at h
  · split at h
    · by_cases h0 : es.length = 0
      · rw [if_pos h0] at h
        cases h
        exact ⟨Eff.at_nil _, fun p => Eff.free_nil p, fun p hp => by simp [AV.free]⟩
      · rw [if_neg h0] at h
        cases h
        exact ⟨Eff.at_one (.inl rfl), fun p => by simp [Eff.free, Ob.avs, AV.frees], fun p hp => by simpa [AV.free] using hp⟩
    · cases h
  · split at h
    · rename_i ho
      split at h
      · cases h
        exact ⟨Eff.at_append (f := [_]) (Eff.at_one (.inr (by rw [ho]; simp))) (Eff.at_one (.inl rfl)), fun p => by simp [Eff.free, Ob.avs, AV.frees], fun p hp => by simpa [AV.free] using hp⟩
      · cases h
    · cases h
  · cases h

theorem appendS_at {d : Nat} {i : TI} {s y : AV} {v : AV} {f : Eff} (h : appendS d st i s y = some (v, f)) : Eff.at (fun id => id = (d, 0) ∨ st.ob id ≠ none) f ∧ (∀ p, Eff.free p f) ∧ ∀ p : Id → Prop, ¬ p (d, 0) → v.free p := by
  unfold appendS at h
  split at h
  · split at h
    · split at h
      · split at h
        · cases h
          exact ⟨Eff.at_one (.inl rfl), fun p => by simp [Eff.free, Ob.avs, AV.frees], fun p hp => by simpa [AV.free] using hp⟩
        · cases h
      · split at h
        · rename_i ho
          split at h
          · cases h
            exact ⟨Eff.at_append (f := [_]) (Eff.at_one (.inr (by rw [ho]; simp))) (Eff.at_one (.inl rfl)), fun p => by simp [Eff.free, Ob.avs, AV.frees], fun p hp => by simpa [AV.free] using hp⟩
          · cases h
        · cases h
      · cases h
    · cases h
  · cases h

theorem appendB_at {d : Nat} {i : TI} {s : AV} {es : List (List AV)} {v : AV} {f : Eff} (h : appendB d st i s es = some (v, f)) : Eff.at (fun id => id = (d, 0) ∨ st.ob id ≠ none) f ∧ (∀ p, st.Free p → AV.frees p es.flatten → Eff.free p f) ∧ ∀ p : Id → Prop, ¬ p (d, 0) → v.free p := by
  unfold appendB at h
  split at h
  · cases h
  split at h
  · split at h
    · cases h
      refine ⟨Eff.at_one (.inl rfl), fun p _ hp e he o ho => ?_, fun p hp => by simpa [AV.free] using hp⟩
      simp at he
      subst he
      simp at ho
      subst ho
      exact hp
    · cases h
  · split at h
    · rename_i ho
      split at h
      · cases h
        refine ⟨Eff.at_append (f := [_]) (Eff.at_one (.inr (by rw [ho]; simp))) (Eff.at_one (.inl rfl)), fun p hs hp e he o ho' => ?_, fun p hp => by simpa [AV.free] using hp⟩
        simp at he
        rcases he with rfl | rfl
        · cases ho'
        · simp at ho'
          subst ho'
          show AV.frees p (List.flatten _)
          rw [List.flatten_append]
          refine frees_append (frees_mem fun x hx => ?_) hp
          obtain ⟨el, hel, hx⟩ := List.mem_flatten.1 hx
          exact mem_frees (hs.avs _ _ ho) x (List.mem_flatten.2 ⟨el, List.mem_of_mem_take hel, hx⟩)
      · cases h
    · cases h
  · cases h

theorem litB_frees {p : Id → Prop} (hf : st.Free p) {size : Nat} {ps : List (Nat × Operand)} {k : Nat} {es : List (List AV)} (h : litB st size k ps = some es) : AV.frees p es.flatten := by
  obtain ⟨l1, l4⟩ := litB_inv h
  refine frees_mem fun x hx => ?_
  obtain ⟨el, he, hx⟩ := List.mem_flatten.1 hx
  obtain ⟨j, hj⟩ := List.getElem?_of_mem he
  have hjl := (List.getElem?_eq_some_iff.1 hj).1
  obtain ⟨q, hq⟩ : ∃ q, ps[j]? = some q := ⟨_, List.getElem?_eq_getElem (by omega)⟩
  obtain ⟨_, _, _, p4⟩ := l4 j q hq
  rw [hj] at p4
  cases p4
  exact mem_frees (AV.cells_free (hf.ev q.2)) x hx

theorem lookR_free {p : Id → Prop} {ok : Bool} {z : Value} {o : Option AV} (h : ∀ v, o = some v → v.free p) : (lookR ok z o).free p := by
  have h1 : (o.getD (.t (.v z))).free p := by
    cases o with
    | none => trivial
    | some v => exact h v rfl
  unfold lookR
  split
  · unfold AV.free AV.frees
    refine ⟨h1, ?_⟩
    unfold AV.frees
    exact ⟨trivial, trivial⟩
  · exact h1

theorem look_free {p : Id → Prop} (hf : st.Free p) {mi : Option MI} {ok : Bool} {x k v : AV} {f : Eff} (h : lookA st mi ok x k = some (v, f)) : f = [] ∧ v.free p := by
  have fl : ∀ (r : List (MK × Value)) (key : MK) (v : AV), (mget r key).map (fun x => AV.t (.v x)) = some v → v.free p := by
    intro r key v hv
    cases hm : mget r key with
    | none => simp [hm] at hv
    | some u => simp [hm] at hv; subst hv; trivial
  unfold lookA at h
  split at h
  · cases h
  · split at h
    · cases h
    · split at h
      · cases h; exact ⟨rfl, lookR_free fun v hv => by cases hv⟩
      · split at h
        · cases h; exact ⟨rfl, lookR_free (fl _ _)⟩
        · cases h
      · split at h
        · rename_i ho
          split at h
          · cases h
            refine ⟨rfl, lookR_free fun v hv => ?_⟩
            exact mem_frees (hf.avs _ _ ho) v (List.mem_map.2 ⟨_, mget_mem hv, rfl⟩)
          · cases h
        · split at h
          · cases h; exact ⟨rfl, lookR_free (fl _ _)⟩
          · cases h
        · cases h
      · cases h

theorem mset_frees {p : Id → Prop} {k : MK} {v : AV} (hv : v.free p) : ∀ {kvs : List (MK × AV)}, AV.frees p (kvs.map (·.2)) → AV.frees p ((mset kvs k v).map (·.2))
  | [], _ => by simp only [mset, List.map_cons, List.map_nil]; unfold AV.frees; exact ⟨hv, trivial⟩
  | q :: l, h => by
    simp only [List.map_cons] at h
    unfold AV.frees at h
    unfold mset
    split
    · simp only [List.map_cons]; unfold AV.frees; exact ⟨hv, h.2⟩
    · simp only [List.map_cons]; unfold AV.frees; exact ⟨h.1, mset_frees hv h.2⟩

theorem mup_at {mi : Option MI} {x k v : AV} {f : Eff} (h : mupA st mi x k v = some f) : Eff.at (fun id => st.ob id ≠ none) f ∧ ∀ p, st.Free p → v.free p → Eff.free p f := by
  unfold mupA at h
  split at h
  · cases h
  · split at h
    · cases h
    · split at h
      · split at h
        · rename_i ho
          split at h
          · cases h
            refine ⟨Eff.at_one (by rw [ho]; simp), fun p hs hv e he o ho' => ?_⟩
            simp at he
            subst he
            simp at ho'
            subst ho'
            exact mset_frees hv (hs.avs _ _ ho)
          · cases h
        · cases h
      · cases h

theorem evs_frees {p : Id → Prop} (hf : st.Free p) : ∀ l : List Operand, AV.frees p (l.map st.ev)
  | [] => trivial
  | x :: l => by simp only [List.map_cons]; unfold AV.frees; exact ⟨hf.ev x, evs_frees hf l⟩

/-- What an operation gives names only what was named, and its own new objects. -/
structure Mild (st : St) (d : Nat) (op : Op) (v : AV) (f : Eff) : Prop where
  at' : Eff.at (fun id => id = (d, 0) ∨ (wr op = true ∧ st.ob id ≠ none)) f
  free : ∀ p : Id → Prop, st.Free p → ¬ p (d, 0) → v.free p ∧ Eff.free p f

theorem Mild.still {op : Op} {d : Nat} {v : AV} (h : ∀ p : Id → Prop, st.Free p → v.free p) : Mild st d op v [] := ⟨Eff.at_nil _, fun p hp _ => ⟨h p hp, Eff.free_nil p⟩⟩

theorem evOp_mild {d : Nat} {op : Op} {v : AV} {f : Eff} (h : evOp P d st op = some (v, f)) : Mild st d op v f := by
  unfold evOp at h
  split at h
  · cases h; exact .still fun p hp => hp.ev _
  · cases h; exact .still fun p hp => hp.ev _
  · unfold pickA at h
    split at h
    · cases h
      refine .still fun p hp => ?_
      split
      · exact hp.ev _
      · exact hp.ev _
    · cases h
  · rename_i t
    cases hi : tinf P t with
    | none => simp [hi] at h
    | some i =>
      simp only [hi, Option.bind_some] at h
      split at h
      · cases h
        refine ⟨Eff.at_one (.inl rfl), fun p hp hd => ⟨by simpa [AV.free] using hd, fun e he cs hcs => ?_⟩⟩
        simp at he
        subst he
        simp at hcs
        subst hcs
        show AV.frees p (List.map _ _)
        exact AV.frees_vals _ _
      · cases h
  · split at h
    · cases h
      refine ⟨Eff.at_one (.inl rfl), fun p hp hd => ⟨by simpa [AV.free] using hd, fun e he cs hcs => ?_⟩⟩
      simp at he
      subst he
      simp at hcs
      subst hcs
      exact AV.cells_free (hp.ev _)
    · cases h
  · rename_i t parts
    cases hi : tinf P t with
    | none => simp [hi] at h
    | some i =>
      simp only [hi, Option.bind_some] at h
      split at h
      · cases hc : fillA P t st (i.zero.map fun x => .t (.v x)) parts.toList with
        | none => simp [hc] at h
        | some cs =>
          simp only [hc, Option.map_some, Option.some.injEq, Prod.mk.injEq] at h
          obtain ⟨rfl, rfl⟩ := h
          refine .still fun p hp => ?_
          unfold AV.free
          exact free_fill hp (AV.frees_vals _ _) hc
      · cases h
  · rename_i t len parts
    cases hi : elemOf P t with
    | none => simp [hi] at h
    | some ei =>
      simp only [hi, Option.bind_some] at h
      split at h
      · split at h
        · cases hc : litB st ei.2.size 0 parts.toList with
          | none => simp [hc] at h
          | some r =>
            simp only [hc, Option.map_some, Option.some.injEq, Prod.mk.injEq] at h
            obtain ⟨rfl, rfl⟩ := h
            refine ⟨Eff.at_one (.inl rfl), fun p hp hd => ⟨by simpa [AV.free] using hd, fun e he o ho => ?_⟩⟩
            simp at he
            subst he
            simp at ho
            subst ho
            exact litB_frees hp hc
        · cases hc : litA st ei.2.size 0 parts.toList with
          | none => simp [hc] at h
          | some r =>
            simp only [hc, Option.map_some, Option.some.injEq, Prod.mk.injEq] at h
            obtain ⟨rfl, rfl⟩ := h
            obtain ⟨g1, g2⟩ := litA_at hc
            exact ⟨Eff.at_append (Eff.at_mono g1 fun id hid => .inr ⟨rfl, hid⟩) (Eff.at_one (.inl rfl)), fun p hp hd => ⟨by simpa [AV.free] using hd, Eff.free_append (g2.free p) (by simp [Eff.free, Ob.avs, AV.frees])⟩⟩
      · cases h
  · unfold makeA at h
    split at h
    · split at h
      · cases h
        exact ⟨Eff.at_one (.inl rfl), fun p hp hd => ⟨by simpa [AV.free] using hd, by simp [Eff.free, Ob.avs, AV.frees]⟩⟩
      · cases h
    · cases h
  · rename_i t x
    cases hi : tinf P t with
    | none => simp [hi] at h
    | some i =>
      simp only [hi, Option.bind_some] at h
      cases hc : loadA st i.agg i.size (st.ev x) with
      | none => simp [hc] at h
      | some u =>
        simp only [hc, Option.map_some, Option.some.injEq, Prod.mk.injEq] at h
        obtain ⟨rfl, rfl⟩ := h
        exact .still fun p hp => free_load hp hc
  · rename_i t x y
    cases hi : tinf P t with
    | none => simp [hi] at h
    | some i =>
      simp only [hi, Option.bind_some] at h
      cases hc : storeA st i.size (st.ev y) (st.ev x) with
      | none => simp [hc] at h
      | some g =>
        simp only [hc, Option.map_some, Option.some.injEq, Prod.mk.injEq] at h
        obtain ⟨rfl, rfl⟩ := h
        exact ⟨Eff.at_mono (store_at hc) fun id hid => .inr ⟨rfl, hid⟩, fun p hp hd => ⟨by simp [AV.free], store_free hp (hp.ev _) hc⟩⟩
  · rename_i x
    unfold nilA at h
    split at h
    · rename_i id i j hx
      cases h
      exact .still fun p hp => by have := hp.ev x; rw [hx] at this; exact this
    · cases h
      exact .still fun p hp => by simp [AV.free]
    · cases h
  · rename_i op t x y t2
    have hA : ∀ b : Bool, eqlA op b = some (v, f) → Mild st d (.binOp op t x y t2) v f := by
      intro b h
      unfold eqlA at h
      split at h
      · cases h; exact .still fun p hp => by simp [AV.free]
      · cases h; exact .still fun p hp => by simp [AV.free]
      · cases h
    unfold binP at h
    split at h
    · split at h
      · exact hA _ h
      · cases h
    · split at h
      · exact hA _ h
      · cases h
    · unfold binA at h
      split at h
      · rename_i a b _ _
        cases hb : binV op (isBoolT (P.underlying t)) a b with
        | none => simp [hb] at h
        | some u =>
          simp only [hb, Option.map_some, Option.some.injEq, Prod.mk.injEq] at h
          obtain ⟨rfl, rfl⟩ := h
          exact .still fun p hp => by simp [AV.free]
      · cases h
  · rename_i op t x
    unfold unA at h
    split at h
    · rename_i a _
      cases hb : unV op a with
      | none => simp [hb] at h
      | some u =>
        simp only [hb, Option.map_some, Option.some.injEq, Prod.mk.injEq] at h
        obtain ⟨rfl, rfl⟩ := h
        exact .still fun p hp => by simp [AV.free]
    · cases h
  · split at h
    · unfold convA at h
      split at h
      · cases h
        exact .still fun p hp => by simp [AV.free]
      · cases h
    · unfold convS at h
      cases he : elemsA st 1 (st.ev _) with
      | none => rw [he] at h; cases h
      | some es =>
        rw [he] at h
        cases hb : bytesOf es with
        | none => simp [hb] at h
        | some l =>
          simp only [hb, Option.bind_some, Option.map_some, Option.some.injEq, Prod.mk.injEq] at h
          obtain ⟨rfl, rfl⟩ := h
          exact .still fun p hp => by simp [AV.free]
    · cases h
  · rename_i t x lo hi
    unfold sliceO at h
    have key : ∀ k y l r, (sliceA k (st.ev y) l r).map (fun v => (v, ([] : Eff))) = some (v, f) → Mild st d (.slice t x lo hi none) v f := by
      intro k y l r e
      cases hs : sliceA k (st.ev y) l r with
      | none => simp [hs] at e
      | some v' =>
        simp only [hs, Option.map_some, Option.some.injEq, Prod.mk.injEq] at e
        obtain ⟨rfl, rfl⟩ := e
        refine .still fun p hp => ?_
        have hy := hp.ev y
        unfold sliceA at hs
        split at hs
        · split at hs
          · cases hs; simp [AV.free]
          · cases hs
        · split at hs
          · cases hs; simp [AV.free]
          · cases hs
        · rename_i hx
          split at hs
          · cases hs
            rw [hx] at hy
            simpa [AV.free] using hy
          · cases hs
        · cases hs
    split at h
    · cases h
    · cases h
    · exact key _ _ _ _ h
  · rename_i t x k
    unfold fieldAddrA at h
    split at h
    · rename_i off size ag id i j hf hx
      split at h
      · cases h
        exact .still fun p hp => by have := hp.ev x; rw [hx] at this; simpa [AV.free] using this
      · cases h
    · split at h
      · cases h
        exact .still fun p hp => by simp [AV.free]
      · cases h
    · cases h
  · rename_i t x k
    unfold fieldA at h
    split at h
    · rename_i off size ag cs hf hx
      split at h
      · cases ha : asOne ag ((cs.drop off).take size) with
        | none => rw [ha] at h; cases h
        | some u =>
          simp only [ha, Option.map_some, Option.some.injEq, Prod.mk.injEq] at h
          obtain ⟨rfl, rfl⟩ := h
          refine .still fun p hp => ?_
          have hy := hp.ev x
          rw [hx] at hy
          unfold AV.free at hy
          exact free_asOne ha (frees_take _ (frees_drop _ hy))
      · cases h
    · cases h
  · rename_i t x ix
    unfold indexAddrO at h
    split at h
    · rename_i k n hix
      cases ha : indexAddrA (elemOf P t) (st.ev x) n with
      | none => simp [ha] at h
      | some u =>
        simp only [ha, Option.map_some, Option.some.injEq, Prod.mk.injEq] at h
        obtain ⟨rfl, rfl⟩ := h
        refine .still fun p hp => ?_
        have hy := hp.ev x
        unfold indexAddrA at ha
        split at ha
        · split at ha
          · split at ha
            · split at ha
              · cases ha; simp [AV.free]
              · cases ha
            · cases ha
          · cases ha
        · rename_i hx
          split at ha
          · cases ha
            rw [hx] at hy
            simpa [AV.free] using hy
          · cases ha
        · cases ha
    · cases h
  · unfold indexA at h
    split at h
    · split at h
      · split at h
        · cases h
          exact .still fun p hp => by simp [AV.free]
        · cases h
      · cases h
    · cases h
  · rename_i x i
    unfold extractA at h
    split at h
    · rename_i vs hx
      split at h
      · rename_i u hu
        cases h
        refine .still fun p hp => ?_
        have hy := hp.ev x
        rw [hx] at hy
        unfold AV.free at hy
        exact frees_get hy hu
      · cases h
    · cases h
  · rename_i t
    cases hi : minf P t with
    | none => simp [hi] at h
    | some mi =>
      simp only [hi, Option.bind_some, Option.some.injEq, Prod.mk.injEq] at h
      obtain ⟨rfl, rfl⟩ := h
      exact ⟨Eff.at_one (.inl rfl), fun p hp hd => ⟨by simpa [AV.free] using hd, by simp [Eff.free, Ob.avs, AV.frees]⟩⟩
  · have := look_free (p := fun _ => False) ⟨fun _ => AV.free_false _, fun _ => AV.free_false _, fun _ _ _ => AV.frees_false _, fun _ h => h.elim⟩ h
    obtain ⟨rfl, _⟩ := this
    exact .still fun p hp => (look_free hp h).2
  · rename_i t x k y
    cases hc : mupA st (minf P t) (st.ev x) (st.ev k) (st.ev y) with
    | none => simp [hc] at h
    | some g =>
      simp only [hc, Option.map_some, Option.some.injEq, Prod.mk.injEq] at h
      obtain ⟨rfl, rfl⟩ := h
      obtain ⟨g1, g2⟩ := mup_at hc
      exact ⟨Eff.at_mono g1 fun id hid => .inr ⟨rfl, hid⟩, fun p hp hd => ⟨by simp [AV.free], g2 p hp (hp.ev _)⟩⟩
  · cases h
    refine .still fun p hp => ?_
    unfold AV.free
    exact ⟨evs_frees hp _, evs_frees hp _⟩
  · split at h
    · cases h
      refine .still fun p hp => ?_
      unfold AV.free
      exact hp.ev _
    · cases h
  · rename_i x t u
    cases hc : assertA (solid (P.underlying u)) u (st.ev x) with
    | none => simp [hc] at h
    | some y =>
      simp only [hc, Option.map_some, Option.some.injEq, Prod.mk.injEq] at h
      obtain ⟨rfl, rfl⟩ := h
      refine .still fun p hp => ?_
      have hy := hp.ev x
      unfold assertA at hc
      split at hc
      · rename_i hx
        split at hc
        · cases hc
          rw [hx] at hy
          unfold AV.free at hy
          exact hy
        · cases hc
      · cases hc
  · rename_i b xs ts
    unfold callA at h
    split at h
    · rename_i x t _ _
      cases hl : lenA (tkind P t) (st.ev x) with
      | none => simp [hl] at h
      | some n =>
        simp only [hl, Option.map_some, Option.some.injEq, Prod.mk.injEq] at h
        obtain ⟨rfl, rfl⟩ := h
        exact .still fun p hp => by simp [AV.free]
    · rename_i x y t t2 _ _
      split at h
      · cases hi : elemOf P t with
        | none => simp [hi] at h
        | some ei =>
          simp only [hi, Option.bind_some] at h
          unfold appendO at h
          split at h
          · cases he : elemsB st ei.2.size (st.ev y) with
            | none => simp [he] at h
            | some es =>
              simp only [he, Option.bind_some] at h
              obtain ⟨g1, g2, g3⟩ := appendB_at h
              exact ⟨Eff.at_mono g1 fun id hid => by rcases hid with hid | hid; exact .inl hid; exact .inr ⟨rfl, hid⟩, fun p hp hd => ⟨g3 p hd, g2 p hp (elemsB_free hp he)⟩⟩
          · cases he : elemsA st ei.2.size (st.ev y) with
            | none => simp [he] at h
            | some es =>
              simp only [he, Option.bind_some] at h
              obtain ⟨g1, g2, g3⟩ := append_at h
              exact ⟨Eff.at_mono g1 fun id hid => by rcases hid with hid | hid; exact .inl hid; exact .inr ⟨rfl, hid⟩, fun p hp hd => ⟨g3 p hd, g2 p⟩⟩
      · split at h
        · cases hi : elemOf P t with
          | none => simp [hi] at h
          | some ei =>
            simp only [hi, Option.bind_some] at h
            obtain ⟨g1, g2, g3⟩ := appendS_at h
            exact ⟨Eff.at_mono g1 fun id hid => by rcases hid with hid | hid; exact .inl hid; exact .inr ⟨rfl, hid⟩, fun p hp hd => ⟨g3 p hd, g2 p⟩⟩
        · cases h
    · cases h
  · cases h

end Cal
