/- A calculus of our own, seventeenth part: slice literals. No program is named here. -/
import Derived.Test.YthaebckdhcnkfaaCalQ
set_option linter.unusedSimpArgs false
set_option linter.unusedVariables false
namespace Cal
open Go Go.RowKit

variable {P : Program} {w0 w : World} {S0 S : Nat → Prop} {own : List Nat} {N : Nat} {m cap : Id → Nat} {st : St} {a : Act}

theorem fold_put (off : Nat) : ∀ (l : List Value) (k : Nat) (cells : Array Value), (l.zipIdx k).foldl (fun cs (p : Value × Nat) => cs.setIfInBounds (off + p.2) p.1) cells = putAll cells (off + k) l
  | [], _, _ => rfl
  | u :: l, k, cells => by
    simp only [List.zipIdx_cons, List.foldl_cons, putAll]
    rw [fold_put off l (k + 1)]
    rfl

/-- Values in order from place k on, each of so many cells. -/
def Lined (size : Nat) : Nat → List (Nat × Value) → Prop
  | _, [] => True
  | k, (i, v) :: l => i = k ∧ v.cells.size = size ∧ Lined size (k + 1) l

theorem fill_lined (size : Nat) : ∀ (ps : List (Nat × Value)) (k : Nat) (cells : Array Value), Lined size k ps → (k + ps.length) * size ≤ cells.size →
    ∃ arr, Instr.fill (fun i => some (i * size, size)) cells ps = some arr ∧ arr.size = cells.size ∧ (∀ q, q < k * size → arr[q]? = cells[q]?) ∧
      ∀ (j : Nat) (p : Nat × Value), ps[j]? = some p → ∀ r, r < size → arr[(k + j) * size + r]? = p.2.cells[r]?
  | [], k, cells, _, _ => ⟨cells, rfl, rfl, fun _ _ => rfl, fun j p h => by simp at h⟩
  | (i, v) :: ps, k, cells, h, hc => by
    unfold Lined at h
    obtain ⟨rfl, hv, hl⟩ := h
    simp only [List.length_cons] at hc
    have hle : (i + 1) * size ≤ cells.size := Nat.le_trans (Nat.mul_le_mul_right _ (by omega)) hc
    rw [Nat.succ_mul] at hle
    have hfold : v.cells.zipIdx.foldl (fun cs (x : Value × Nat) => cs.setIfInBounds (i * size + x.2) x.1) cells = putAll cells (i * size) v.cells.toList := by
      rw [← Array.foldl_toList, Array.toList_zipIdx]
      exact fold_put (i * size) v.cells.toList 0 cells
    obtain ⟨arr, g1, g2, g3, g4⟩ := fill_lined size ps (i + 1) (putAll cells (i * size) v.cells.toList) hl (by rw [putAll_size]; rw [show i + 1 + ps.length = i + (ps.length + 1) by omega]; exact hc)
    have hlen : v.cells.toList.length = size := by rw [Array.length_toList, hv]
    refine ⟨arr, ?_, by rw [g2, putAll_size], fun q hq => ?_, fun j p hp r hr => ?_⟩
    · simp only [Instr.fill]
      have hno : ¬ ((decide (v.cells.size ≠ size) || decide (i * size + v.cells.size > cells.size)) = true) := by
        rw [hv]
        simp only [ne_eq, not_true_eq_false, decide_false, Bool.false_or, decide_eq_true_eq]
        omega
      rw [if_neg hno]
      rw [← g1]
      congr 1
    · rw [g3 q (by rw [Nat.succ_mul]; omega), putAll_get _ _ _ _ (by rw [hlen]; exact hle), if_neg (by omega)]
    · cases j with
      | zero =>
        simp at hp
        subst hp
        rw [Nat.add_zero, g3 _ (by rw [Nat.succ_mul]; omega), putAll_get _ _ _ _ (by rw [hlen]; exact hle), if_pos (by omega)]
        rw [show i * size + r - i * size = r by omega]
        simp
      | succ j =>
        rw [show i + (j + 1) = i + 1 + j by omega]
        exact g4 j p (by simpa using hp) r hr

theorem litA_inv {size : Nat} : ∀ {ps : List (Nat × Operand)} {k : Nat} {es : List (List T)} {f : Eff}, litA st size k ps = some (es, f) →
    es.length = ps.length ∧ f = st.frzEffs (ps.flatMap fun p => (st.ev p.2).cells) ∧ (∀ v ∈ ps.flatMap (fun p => (st.ev p.2).cells), (st.toT v).isSome) ∧
      ∀ (j : Nat) (p : Nat × Operand), ps[j]? = some p → p.1 = k + j ∧ (st.ev p.2).cells.length = size ∧ ∃ e, es[j]? = some e ∧ st.toTs (st.ev p.2).cells = some e
  | [], k, es, f, h => by
    unfold litA at h
    cases h
    exact ⟨rfl, rfl, by simp, by simp⟩
  | (i, x) :: ps, k, es, f, h => by
    unfold litA at h
    split at h
    · rename_i hc
      obtain ⟨rfl, hsz⟩ := hc
      split at h
      · rename_i e es' f' h1 h2
        cases h
        obtain ⟨g1, g2, g3, g4⟩ := litA_inv h2
        obtain ⟨t1, t2, t3⟩ := toTs_some h1
        refine ⟨by simp [g1], ?_, fun v hv => ?_, fun j p hp => ?_⟩
        · have happ : ∀ (xs ys : List AV), st.frzEffs (xs ++ ys) = st.frzEffs xs ++ st.frzEffs ys := by
            intro xs ys
            induction xs with
            | nil => rfl
            | cons z xs ih => simp only [List.cons_append, St.frzEffs, ih, List.append_assoc]
          simp only [List.flatMap_cons]
          rw [happ, g2]
        · simp only [List.flatMap_cons, List.mem_append] at hv
          rcases hv with hv | hv
          · exact t2 v hv
          · exact g3 v hv
        · cases j with
          | zero =>
            simp at hp
            subst hp
            exact ⟨rfl, hsz, e, rfl, h1⟩
          | succ j =>
            obtain ⟨q1, q2, e', q3, q4⟩ := g4 j p (by simpa using hp)
            exact ⟨by omega, q2, e', by simpa using q3, q4⟩
      · cases h
    · cases h

theorem toT_one {s : St} {v : AV} (h : (s.toT v).isSome) : v.one = true := by
  cases v <;> first | rfl | simp [St.toT] at h

theorem frzEffs_tm (s0 : St) : ∀ (vs : List AV) (s : St), (s.eff (s0.frzEffs vs)).tm = s.tm := by
  intro vs
  induction vs with
  | nil => intro s; rfl
  | cons v vs ih =>
    intro s
    unfold St.frzEffs
    rw [eff_append, ih]
    cases v with
    | row id sz i n =>
      cases ho : s0.ob id with
      | none => simp [St.frzEff, ho]
      | some o => cases o <;> simp [St.frzEff, ho]
    | _ => rfl

theorem St.Free.froze {s s' : St} {p : Id → Prop} (h : s.Free p) (hz : Froze s s') : s'.Free p := by
  refine ⟨fun t => by rw [hz.1]; exact h.tm t, fun id cs hcs => ?_, fun id hid => ?_⟩
  · rcases hz.2 id with e | ⟨sz, es, _, e2⟩
    · exact h.var id cs (by rw [← e]; exact hcs)
    · rw [e2] at hcs; cases hcs
  · rcases hz.2 id with e | ⟨sz, es, e1, _⟩
    · rw [e]; exact h.none id hid
    · rw [h.none id hid] at e1; rcases e1 with e1 | e1 <;> cases e1

theorem gives_buildSlice {o : Oper} {t e : TypeId} {len : Nat} {parts : Array (Nat × Operand)} {i : TI} (ho : o.op = .buildSlice t len parts) (h : RelAt w0 S0 own N m cap S st a w) (hel : elemOf P t = some (e, i)) {d : Nat} (hf : st.Free (·.1 = d))
    (hlen : len = parts.size) (hlim : len * i.size ≤ 16777216) (hz : i.zero.length = i.size) (hcap : len ≤ maxLen) {es : List (List T)} {f : Eff} (hv : litA st i.size 0 parts.toList = some (es, f)) :
    ∃ u w' m' cap' S', Gives P o a w u w' ∧ RelAt w0 S0 own N m' cap' S' ((st.eff f).setOb (d, 0) (some (.row i.size es))) a w' ∧ AVrep w' S' m' cap' ((st.eff f).setOb (d, 0) (some (.row i.size es))).ob (.row (d, 0) i.size 0 len) u ∧ Far d m m' cap cap' := by
  obtain ⟨ht, hi⟩ := elemOf_inv hel
  obtain ⟨inf, dd, z, q1, q2, q3, q4, q5, q6, q7⟩ := tinf_inv hi
  obtain ⟨l1, l2, l3, l4⟩ := litA_inv hv
  have hzs : z.cells.size = i.size := by rw [← hz, q7, Array.length_toList]
  subst l2
  obtain ⟨S', z1, z2, z3, z4⟩ := freeze_all h (s0 := st) _ (Froze.refl _) l3
  -- the values
  have hcell : ∀ (j : Nat) (p : Nat × Operand), parts.toList[j]? = some p → (a.eval p.2).cells.size = i.size ∧ ∃ el, es[j]? = some el ∧ Treps w S' el (a.eval p.2).cells.toList := by
    intro j p hp
    obtain ⟨p1, p2, el, p3, p4⟩ := l4 j p hp
    obtain ⟨t1, t2, t3⟩ := toTs_some p4
    have hone : (st.ev p.2).cells.all AV.one = true := List.all_eq_true.2 fun v hv => toT_one (t2 v hv)
    obtain ⟨hr, _⟩ := cells_rep (h.ev p.2) hone
    have hr' : AVreps w S' m cap (st.eff (st.frzEffs (parts.toList.flatMap fun p => (st.ev p.2).cells))).ob (st.ev p.2).cells (a.eval p.2).cells.toList := by
      refine AVreps.keep (p := fun _ => False) (Same.refl _ _) z2 ⟨fun i _ => ?_, fun i _ => ⟨rfl, rfl⟩⟩ _ _ (AV.frees_false _) hr
      rcases z3.2 i with e1 | ⟨sz', es', e1, e2⟩
      · rw [e1]; exact Ob.leads_refl _
      · rw [e2]; rcases e1 with e1 | e1 <;> rw [e1] <;> exact ⟨rfl, rfl⟩
    refine ⟨by rw [← Array.length_toList, hr.len, p2], el, p3, ?_⟩
    refine toTs_rep z1 z3 p4 hr' fun id sz k n hm => z4 id sz k n ?_
    exact List.mem_flatMap.2 ⟨p, List.mem_of_getElem? hp, hm⟩
  have hlined : ∀ (ps : List (Nat × Operand)) (k : Nat), (∀ (j : Nat) (p : Nat × Operand), ps[j]? = some p → p.1 = k + j ∧ (a.eval p.2).cells.size = i.size) → Lined i.size k (ps.map fun p => (p.1, a.eval p.2)) := by
    intro ps
    induction ps with
    | nil => intro k _; trivial
    | cons p ps ih =>
      intro k hp
      simp only [List.map_cons]
      unfold Lined
      obtain ⟨a1, a2⟩ := hp 0 p rfl
      refine ⟨by simpa using a1, a2, ih (k + 1) fun j q hq => ?_⟩
      obtain ⟨b1, b2⟩ := hp (j + 1) q (by simpa using hq)
      exact ⟨by omega, b2⟩
  have hL := hlined parts.toList 0 fun j p hp => ⟨(l4 j p hp).1, (hcell j p hp).1⟩
  have hesl : es.length = len := by rw [l1, Array.length_toList, hlen]
  obtain ⟨arr, r1, r2, r3, r4⟩ := fill_lined i.size (parts.toList.map fun p => (p.1, a.eval p.2)) 0 ((Array.range (len * i.size)).map (z.cells[· % z.cells.size]!)) hL (by simp [hlen])
  have hasz : arr.size = len * i.size := by rw [r2]; simp
  have hrun : (Instr.buildSlice t len (parts.map fun (p : Nat × Operand) => (p.1, a.eval p.2))).run P w = .ok (.slice (some ⟨w.heap.size, 0, none⟩) len len) (w.alloc (.cells arr e)) := by
    unfold Instr.buildSlice
    simp only [Sem.run_bind, run_underlying ht, Result.andThen_ok, runT_sizeOf hi]
    rw [if_neg (by omega)]
    have hfill : Instr.fill (fun i_1 => some (i_1 * i.size, i.size)) ((Array.range (len * i.size)).map (z.cells[· % z.cells.size]!)) (parts.map fun (p : Nat × Operand) => (p.1, a.eval p.2)).toList = some arr := by
      rw [← r1]
      simp
    by_cases hz0 : len * i.size = 0
    · have hr1 : (Array.range (len * i.size)).map (z.cells[· % z.cells.size]!) = #[] := by rw [hz0]; simp
      have hr0 : (Array.range (len * i.size)).map ((#[] : Array Value)[· % (#[] : Array Value).size]!) = #[] := by rw [hz0]; simp
      rw [hr1] at hfill
      simp only [if_pos hz0, Sem.run_bind, Sem.run_pure, Result.andThen_ok, hr0, hfill, newRow, newObj, Sem.run]
      rfl
    · have hzv : (zeroValue e).run P w = .ok z w := by simp [zeroValue, typeInfo, q1, q3, Sem.run]
      simp only [if_neg hz0, Sem.run_bind, Sem.run_pure, Result.andThen_ok, hzv, hfill, newRow, newObj, Sem.run]
      rfl
  have hfz := hf.mono (q := (· = (d, 0))) (fun id hid => by rw [hid])
  have hfz' := hfz.froze z3
  have hcur : (w.alloc (.cells arr e)).heap[w.heap.size]? = some (.cells arr e (0, 0)) := by show (w.heap.push _)[w.heap.size]? = _; simp
  have hE : Ereps (w.alloc (.cells arr e)) S' w.heap.size 0 i.size es := by
    rw [Ereps_iff]
    intro j el hj
    have hjl := (List.getElem?_eq_some_iff.1 hj).1
    obtain ⟨p, hp⟩ : ∃ p, parts.toList[j]? = some p := ⟨_, List.getElem?_eq_getElem (by omega)⟩
    obtain ⟨c1, el', c2, c3⟩ := hcell j p hp
    rw [hj] at c2
    cases c2
    obtain ⟨d1, d2⟩ := Treps_iff.1 c3
    refine ⟨by rw [← d1, Array.length_toList, c1], ?_⟩
    rw [Creps_iff]
    intro r x hr
    have hrl := (List.getElem?_eq_some_iff.1 hr).1
    have hrs : r < i.size := by rw [← d1, Array.length_toList, c1] at hrl; exact hrl
    have hval : (a.eval p.2).cells[r]? = some ((a.eval p.2).cells[r]'(by rw [c1]; exact hrs)) := Array.getElem?_eq_getElem _
    refine ⟨(a.eval p.2).cells[r]'(by rw [c1]; exact hrs), ?_, ?_⟩
    · have := r4 j (p.1, a.eval p.2) (by rw [List.getElem?_map, hp]; rfl) r hrs
      simp only [Nat.zero_add] at this
      simp only [World.cell?, hcur, Nat.zero_add]
      rw [this, hval]
      rfl
    · refine Trep.keep ?_ (fun _ hb => hb) x _ (d2 r x _ hr (by rw [Array.getElem?_toList]; exact hval))
      intro b hb
      exact heap_alloc_old w _ (z1.stab b hb)
  obtain ⟨k1, k2⟩ := z1.newRow (w' := w.alloc (.cells arr e)) (d := d) hfz' (g := w.heap.size) (c := len) (sz := i.size) (es := es) (cur := arr) (ty := e)
    (fun i' o' hi' => Nat.ne_of_lt (z1.obs i' o' hi').lt) (fun hs => Nat.lt_irrefl _ (z1.stab _ hs)) (.inl z1.after.size) (fun k hk _ => heap_alloc_old w _ hk) rfl rfl rfl (by show w.heap.size ≤ (w.heap.push _).size; simp) hcur hasz (by omega) hcap hE
  rw [hesl] at k2
  exact ⟨_, _, _, _, S', .inl (by simp [execOp, ho, hrun]), k1, k2, Far.upd _ _ _ _ _ _⟩

end Cal
