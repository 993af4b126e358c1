/- A part of the proof: a calculus of our own over the model's code, and contracts of the program's functions. -/
import Derived.Lib.AppendStr
import Derived.Laws.BytesString
import Derived.Test.YthiflnpbamlinaaG5
/- A calculus of our own: strings appended, bytes made a string. No program is named here. -/
set_option linter.unusedSimpArgs false
set_option linter.unusedVariables false
namespace Cal
open Go Go.RowKit Go.Lib

variable {P : Program} {w0 w : World} {S0 S : Nat → Prop} {own : List Nat} {X : Nat → Value} {N : Nat} {m cap : Id → Nat} {st : St} {a : Act}

theorem strE_len (s : ByteArray) : (strE s).length = s.size := by unfold strE; rw [List.length_map, Array.length_toList]; rfl
theorem strE_reps (w' : World) (S : Nat → Prop) (b : Nat) : ∀ (l : List UInt8) (off : Nat), Holds w' b off (l.map fun c => Value.int .u8 (c.toNat : Int)) → Ereps w' S b off 1 (l.map fun c => [T.v (.int .u8 (c.toNat : Int))])
  | [], _, _ => by unfold Ereps; trivial
  | c :: l, off, h => by
    rw [List.map_cons] at h ⊢
    unfold Ereps
    refine ⟨rfl, ?_, strE_reps w' S b l (off + 1) fun j u hj => ?_⟩
    · unfold Creps
      refine ⟨⟨_, h 0 _ rfl, by unfold Trep; exact ⟨rfl, rfl⟩⟩, ?_⟩
      unfold Creps
      trivial
    · have := h (j + 1) u (by simpa using hj)
      rw [← this]
      congr 2
      omega
theorem strCells_single (s : ByteArray) : ∀ v ∈ strCells s, Single v := by
  intro v hv
  simp only [strCells, List.mem_map] at hv
  obtain ⟨b, _, rfl⟩ := hv
  exact ⟨(fun _ h => nomatch h), (fun _ h => nomatch h)⟩

/-- A string behind a row, where there is room. -/
theorem run_roomS {t u e : TypeId} {i : TI} (ht : P.underlying t = some (.slice e)) (hu : P.underlying u = some .string) (hi : tinf P e = some i) (hs1 : i.size = 1) {b n c : Nat} {ty : TypeId} {arr : Array Value} (hb : w.heap[b]? = some (.cells arr ty (0, 0))) (s : ByteArray) (hroom : n + s.size ≤ c) (hc : c ≤ arr.size) (rt : TypeId) :
    ∃ w', (Builtin.append_ #[t, u] rt #[.slice (some ⟨b, 0, none⟩) n c, .string s]).run P w = .ok (.slice (some ⟨b, 0, none⟩) (n + s.size) c) w' ∧ w'.heap[b]? = some (.cells (putAll arr n (strCells s)) ty (0, 0)) ∧ (∀ j, j ≠ b → w'.heap[j]? = w.heap[j]?) ∧
      w'.os = w.os ∧ w'.tape = w.tape ∧ w'.output = w.output ∧ w'.heap.size = w.heap.size := by
  obtain ⟨inf, d, z, q1, q2, q3, q4, q5, q6, q7⟩ := tinf_inv hi
  have hle : n + (strCells s).length ≤ arr.size := by rw [strCells_length]; omega
  obtain ⟨w', g1, g2⟩ := run_storeFrom (P := P) n (strCells s) 0 w arr hb (by simpa using hle) (strCells_single s)
  refine ⟨w', ?_, by simpa using g2⟩
  have hf := run_firstCells_string (P := P) w 1 s
  rw [hs1] at q5
  simp [Builtin.append_, run_underlying ht, run_underlying hu, Go.sizeOf, typeInfo, q1, ← q5, Builtin.lenOf, hroom, hf, add_none, g1]

theorem strE_holds {w' : World} {b off : Nat} {s : ByteArray} (S : Nat → Prop) (h : Holds w' b off (strCells s)) : Ereps w' S b off 1 (strE s) := strE_reps w' S b s.data.toList off h

theorem gives_appendS {o : Oper} {t t2 e : TypeId} {x y : Operand} {i : TI} (ho : o.op = .call ⟨.builtin .append, #[x, y], #[t, t2]⟩) (hu : P.underlying t2 = some .string) (h : RelAt w0 S0 own X N m cap S st a w) (hel : elemOf P t = some (e, i)) {d : Nat} (hf : st.Free (·.1 = d))
    {v : AV} {f : Eff} (hv : appendS d st i (st.ev x) (st.ev y) = some (v, f)) :
    ∃ u w' m' cap', Gives P o a w u w' ∧ RelAt w0 S0 own X N m' cap' S (st.eff f) a w' ∧ AVrep w' S m' cap' (st.eff f).ob v u ∧ Far d m m' cap cap' := by
  obtain ⟨ht, hi⟩ := elemOf_inv hel
  obtain ⟨inf, dd, z, q1, q2, q3, q4, q5, q6, q7⟩ := tinf_inv hi
  have hx := h.ev x
  have hy := h.ev y
  have gv : ∀ {u : Value} {w' : World}, (Builtin.append_ #[t, t2] o.type #[a.eval x, a.eval y]).run P w = .ok u w' → Gives P o a w u w' := fun hr => .inl (by simp [execOp, ho, resolve, invoke, builtin, hr])
  unfold appendS at hv
  split at hv
  rotate_left
  · cases hv
  rename_i s hp
  rw [hp] at hy
  obtain ⟨hy, _⟩ := AVrep_v_inv hy
  split at hv
  rotate_left
  · cases hv
  rename_i hi1
  obtain ⟨i1, i2, i3⟩ := hi1
  obtain ⟨f1, f2, f3⟩ := fine_inv (i := i) (by simp [i3])
  have hzs : z.cells.size = inf.size := by rw [← q5, ← f1, q7, Array.length_toList]
  have hsmall : ∀ n : Nat, n ≤ lim → n ≤ maxLen := fun n hn => by
    unfold lim at hn
    unfold maxLen
    omega
  have hf0 : st.Free (· = (d, 0)) := hf.mono fun id hid => by rw [hid]
  have grow : ∀ (b n c : Nat) (vs : List Value) (fs : List (List T)), vs.length = n → fs.length = n → Holds w b 0 vs → (∀ (w' : World) (b' off' : Nat), Same S w w' → Holds w' b' off' vs → Ereps w' S b' off' 1 fs) → c < n + s.size → n + s.size ≤ lim → ∀ (st2 : St) (_ : RelAt w0 S0 own X N m cap S st2 a w) (_ : st2.Free (· = (d, 0))),
      ∃ u w' m' cap', (Builtin.append_ #[t, t2] o.type #[.slice (some ⟨b, 0, none⟩) n c, .string s]).run P w = .ok u w' ∧ RelAt w0 S0 own X N m' cap' S (st2.setOb (d, 0) (some (.row 1 (fs ++ strE s)))) a w' ∧ AVrep w' S m' cap' (st2.setOb (d, 0) (some (.row 1 (fs ++ strE s)))).ob (.row (d, 0) 1 0 (n + s.size)) u ∧ Far d m m' cap cap' := by
    intro b n c vs fs hvl hfl hH hE hc hlim st2 h2 hf2
    have hm := hsmall _ hlim
    have holds : ∀ j u, vs[j]? = some u → w.cell? ((⟨b, 0, none⟩ : Addr).add j) = some u := fun j u hj => by rw [add_none]; exact hH j u hj
    have hr := run_append_grow_string (P := P) w t t2 o.type e inf z ht hu q1 q3 ⟨b, 0, none⟩ n c vs (by rw [← q5, i1, Nat.mul_one]; exact hvl) holds s hc (by unfold maxLen at hm; omega) (by
      rw [← q6, i2]
      exact growslice_fits hc (by unfold lim at hlim; omega))
    have hge := grownCap_ge w (n + s.size) c e
    have hcm : grownCap w (n + s.size) c e ≤ maxLen := grownCap_le_maxLen w (n + s.size) c e hm
    have hbl : (w.drew.alloc (.cells (vs.toArray ++ (strCells s).toArray ++ Builtin.zeroCells z.cells (grownCap w (n + s.size) c e - (n + s.size))) e)).heap[w.heap.size]? = some (.cells (vs.toArray ++ (strCells s).toArray ++ Builtin.zeroCells z.cells (grownCap w (n + s.size) c e - (n + s.size))) e (0, 0)) := heap_alloc_new w.drew _
    have hlen : n + s.size = (fs ++ strE s).length := by rw [List.length_append, strE_len, hfl]
    have hold : ∀ k, k < w.heap.size → (w.drew.alloc (.cells (vs.toArray ++ (strCells s).toArray ++ Builtin.zeroCells z.cells (grownCap w (n + s.size) c e - (n + s.size))) e)).heap[k]? = w.heap[k]? := fun k hk => heap_alloc_old w.drew _ hk
    have hsame : Same S w (w.drew.alloc (.cells (vs.toArray ++ (strCells s).toArray ++ Builtin.zeroCells z.cells (grownCap w (n + s.size) c e - (n + s.size))) e)) := fun k hk => hold k (h2.stab k hk)
    have hH2 : Holds (w.drew.alloc (.cells (vs.toArray ++ (strCells s).toArray ++ Builtin.zeroCells z.cells (grownCap w (n + s.size) c e - (n + s.size))) e)) w.heap.size 0 (vs ++ strCells s) := holds_take hbl (n := n + s.size) (by
      simp only [Array.toList_append, List.append_assoc]
      rw [← List.append_assoc]
      have : n + s.size = (vs ++ strCells s).length := by rw [List.length_append, strCells_length, hvl]
      rw [this]
      exact List.take_left)
    obtain ⟨hHa, hHb⟩ := hH2.split
    have e1 : 0 + fs.length * 1 = 0 + vs.length := by omega
    have hEE := (hE _ w.heap.size 0 hsame hHa).append (strE_holds S (by rw [e1]; exact hHb))
    obtain ⟨l1, l2⟩ := h2.newRow (w' := (w.drew.alloc (.cells (vs.toArray ++ (strCells s).toArray ++ Builtin.zeroCells z.cells (grownCap w (n + s.size) c e - (n + s.size))) e))) (c := grownCap w (n + s.size) c e) hf2 (es := fs ++ strE s) (sz := 1) (fun i' o' hi' he => by have := (h2.obs i' o' hi').lt; omega) (fun hs => by have := h2.stab _ hs; omega) (.inl h2.after.size) (fun k hk _ => hold k hk) rfl rfl rfl (by simp) hbl (by
      simp only [Array.size_append, List.size_toArray, size_zeroCells, hzs, ← q5, i1, strCells_length, hvl]
      omega) (by rw [← hlen]; exact hge) hcm hEE
    rw [← hlen] at l2
    exact ⟨_, _, _, _, hr, l1, l2, Far.upd _ _ _ _ _ _⟩
  split at hv
  · rename_i es hpx
    rw [hpx] at hx
    split at hv
    rotate_left
    · cases hv
    rename_i hc
    cases hv
    unfold AVrep at hx
    obtain ⟨b, x1, x2, x3, x4⟩ := hx
    obtain ⟨vs, g1, g2, g3, g4⟩ := x3.move
    obtain ⟨u, w', m', cap', r1, r2, r3, r4⟩ := grow b es.length es.length vs es (by rw [g1, Nat.mul_one]) rfl g2 g4 (by omega) hc.2 st h hf0
    exact ⟨u, w', m', cap', gv (by rw [x1, hy]; exact r1), by simpa [St.eff] using r2, by simpa [St.eff] using r3, r4⟩
  · rename_i id sz0 n hpx
    rw [hpx] at hx
    split at hv
    rotate_left
    · cases hv
    rename_i sz fs hob
    split at hv
    rotate_left
    · cases hv
    rename_i hc
    obtain ⟨rfl, hc2, hc3⟩ := hc
    cases hv
    unfold AVrep at hx
    obtain ⟨A0, c, x1, x2, x3, x4, _, x5⟩ := hx
    obtain ⟨rfl, x6, x7, x8, x9⟩ := x5 _ fs.length (by rw [hob]; rfl)
    obtain ⟨rfl, rfl⟩ := x9 rfl
    obtain ⟨⟨⟨arr, ty, k1, k2⟩, k3, k4, k5⟩, k6⟩ := h.obs id _ hob
    have hd := h.drop id
    have hfd : (st.setOb id none).Free (· = (d, 0)) := by
      refine ⟨hf0.tm, hf0.gh, fun i' cs hcs => hf0.avs i' cs ?_, fun i' hi' => ?_⟩
      · by_cases e' : i' = id
        · subst e'; simp [St.setOb] at hcs
        · simpa [St.setOb, e'] using hcs
      · by_cases e' : i' = id
        · subst e'; simp [St.setOb]
        · simp only [St.setOb, if_neg e']; exact hf0.none i' hi'
    have hgone : ∀ i' o', (st.setOb id none).ob i' = some o' → st.ob i' = some o' ∧ m i' ≠ m id := fun i' o' hi' => by
      by_cases e' : i' = id
      · subst e'; simp [St.setOb] at hi'
      · have : st.ob i' = some o' := by simpa [St.setOb, e'] using hi'
        exact ⟨this, fun he => e' (h.inj i' id (by rw [this]; simp) (by rw [hob]; simp) he)⟩
    obtain ⟨vs, g1, g2, g3, g4⟩ := k5.move
    rw [Nat.mul_one] at g1 k2
    have hnl : n + s.size = (fs ++ strE s).length := by rw [List.length_append, strE_len, hc2]
    by_cases hroom : n + s.size ≤ cap id
    · obtain ⟨w', r1, r2, r3, r4, r5, r6, r7⟩ := run_roomS (P := P) ht hu hi i1 k1 s hroom (by rw [k2]; exact Nat.le_refl _) o.type
      have hsame : Same S w w' := fun k hk => r3 k fun e' => k6 (e' ▸ hk)
      have hH : Holds w' (m id) 0 (vs ++ strCells s) := by
        have hlen : n + (strCells s).length ≤ arr.size := by rw [strCells_length, k2]; exact hroom
        intro j u hj
        unfold World.cell?
        simp only [r2, Nat.zero_add]
        rw [if_neg (by simp), putAll_get _ _ _ _ hlen]
        have hvl : vs.length = n := by rw [g1, hc2]
        by_cases hjn : j < vs.length
        · rw [List.getElem?_append_left hjn] at hj
          rw [if_neg (by omega)]
          have := g2 j u hj
          unfold World.cell? at this
          simp only [k1, Nat.zero_add] at this
          simpa using this
        · rw [List.getElem?_append_right (by omega)] at hj
          have hju := (List.getElem?_eq_some_iff.1 hj).1
          rw [if_pos (by omega)]
          rw [hvl] at hj
          exact hj
      obtain ⟨hH1, hH2⟩ := hH.split
      have hE : Ereps w' S (m id) 0 1 (fs ++ strE s) := (g4 w' (m id) 0 hsame hH1).append (strE_holds S (by rw [Nat.zero_add, Nat.mul_one, ← g1]; simpa using hH2))
      obtain ⟨l1, l2⟩ := hd.newRow (w' := w') hfd (es := fs ++ strE s) (sz := 1) (fun i' o' hi' => (hgone i' o' hi').2) k6 (h.mine id _ hob) (fun k _ hk => r3 k hk) r4 r5 r6 (by omega) r2 (by rw [putAll_size, Nat.mul_one]; exact k2) (by rw [← hnl]; exact hroom) k4 hE
      rw [← hnl] at l2
      exact ⟨_, w', _, _, gv (by rw [x1, hy]; exact r1), by simpa [St.eff] using l1, by simpa [St.eff] using l2, Far.upd _ _ _ _ _ _⟩
    · obtain ⟨u, w', m', cap', r1, r2, r3, r4⟩ := grow (m id) n (cap id) vs fs (by rw [g1, hc2]) hc2.symm g2 g4 (by omega) hc3 (st.setOb id none) hd hfd
      exact ⟨u, w', m', cap', gv (by rw [x1, hy]; exact r1), by simpa [St.eff] using r2, by simpa [St.eff] using r3, r4⟩
  · cases hv

/-! ### bytes made a string -/
theorem push_all : ∀ (ns : List Int) (s : ByteArray), ns.foldl (fun r n => r.push (UInt8.ofNat n.toNat)) s = ⟨s.data ++ (ns.map fun n => UInt8.ofNat n.toNat).toArray⟩
  | [], s => by simp
  | n :: ns, s => by
    rw [List.foldl_cons, push_all ns]
    simp only [ByteArray.push, List.map_cons]
    congr 1
    apply Array.ext'
    simp
theorem bytesOf_cells {b : Nat} : ∀ {es : List (List T)} {l : List UInt8} {off : Nat}, bytesOf es = some l → Ereps w S b off 1 es → ∃ ns : List Int, es.length = ns.length ∧ Holds w b off (ns.map (Value.int .u8)) ∧ l = ns.map fun n => UInt8.ofNat n.toNat
  | [], l, off, h, _ => by
    unfold bytesOf at h
    cases h
    exact ⟨[], rfl, fun j u hj => by simp at hj, rfl⟩
  | e :: es, l, off, h, hE => by
    unfold bytesOf at h
    split at h
    · rename_i he
      cases he
    · rename_i n es' he
      cases he
      cases hb : bytesOf es with
      | none => simp [hb] at h
      | some l' =>
        simp only [hb, Option.map_some, Option.some.injEq] at h
        subst h
        unfold Ereps at hE
        obtain ⟨_, h1, h2⟩ := hE
        obtain ⟨ns, k1, k2, k3⟩ := bytesOf_cells hb h2
        unfold Creps at h1
        obtain ⟨⟨u, g1, g2⟩, _⟩ := h1
        unfold Trep at g2
        obtain ⟨rfl, _⟩ := g2
        refine ⟨n :: ns, by simp [k1], fun j u hj => ?_, by simp [k3]⟩
        cases j with
        | zero =>
          simp at hj
          subst hj
          exact g1
        | succ j =>
          have := k2 j u (by simpa using hj)
          rw [← this]
          congr 2
          omega
    · cases h
theorem convK_true {P : Program} {t1 t2 : TypeId} (h : convK P t1 t2 = some true) : ∃ e, P.underlying t1 = some (.slice e) ∧ P.underlying t2 = some .string ∧ P.underlying e = some (.int .u8) := by
  unfold convK at h
  split at h
  · rename_i e h1 h2
    split at h
    · rename_i h3
      refine ⟨e, h1, h2, ?_⟩
      unfold isU8T at h3
      split at h3
      · assumption
      · cases h3
    · cases h
  · cases h
  · cases h
theorem convK_src {P : Program} {t1 t2 : TypeId} {b : Bool} (h : convK P t1 t2 = some b) : (P.underlying t1).isSome := by
  unfold convK at h
  split at h
  · rename_i h1 _
    rw [h1]; rfl
  · rename_i h1 _
    rw [h1]; rfl
  · cases h
theorem still_convS {o : Oper} {t1 t2 : TypeId} {x : Operand} (ho : o.op = .convert t1 t2 x) (hk : convK P t1 t2 = some true) (h : RelAt w0 S0 own X N m cap S st a w) {v : AV} {f : Eff} (hv : convS st (st.ev x) = some (v, f)) :
    ∃ u, Still P o a w u ∧ AVrep w S m cap st.ob v u ∧ f = [] := by
  obtain ⟨e, h1, h2, h3⟩ := convK_true hk
  unfold convS at hv
  cases he : elemsA st 1 (st.ev x) with
  | none => simp [he] at hv
  | some es =>
    cases hb : bytesOf es with
    | none => simp [he, hb] at hv
    | some l =>
      simp only [he, hb, Option.bind_some, Option.map_some, Option.some.injEq, Prod.mk.injEq] at hv
      obtain ⟨rfl, rfl⟩ := hv
      obtain ⟨A, c, us, e1, e2, e3, e4, e5⟩ := elems_move h (h.ev x) he
      refine ⟨.string ⟨l.toArray⟩, ?_, AVrep_v rfl, rfl⟩
      unfold Still
      have hrun : (convert t1 t2 (.slice A es.length c)).run P w = .ok (.string ⟨l.toArray⟩) w := by
        rw [run_convert_bytes_string w t1 t2 e A es.length c h1 h3 h2]
        by_cases hn : 0 < es.length
        · obtain ⟨b, off, rfl, hh⟩ := e4 hn
          have hE := e5 w b off (Same.refl _ _) hh
          obtain ⟨ns, k1, k2, k3⟩ := bytesOf_cells hb hE
          have hl : (loadCells ⟨b, off, none⟩ es.length).run P w = .ok (ns.map (Value.int .u8)).toArray w := by
            have := run_loadFrom (P := P) b off (ns.map (Value.int .u8)) 0 #[] (by simpa using k2)
            rw [List.length_map, ← k1] at this
            simpa [loadCells] using this
          rw [run_bytesToString w _ _ c ns hl, push_all, k3]
          congr 3
          apply Array.ext'
          simp
        · have : es = [] := List.length_eq_zero_iff.1 (by omega)
          subst this
          unfold bytesOf at hb
          cases hb
          cases A with
          | none => simp [Conv.bytesToString]; rfl
          | some A =>
            have hl : (loadCells A 0).run P w = .ok (([] : List Int).map (Value.int .u8)).toArray w := by simp [loadCells, loadCellsFrom]
            exact run_bytesToString w A 0 c [] hl
      simp [execOp, ho, e1, hrun]
end Cal

/- A calculus of our own, seventeenth part: slice literals. No program is named here. -/
set_option linter.unusedSimpArgs false
set_option linter.unusedVariables false
namespace Cal
open Go Go.RowKit

variable {P : Program} {w0 w : World} {S0 S : Nat → Prop} {own : List Nat} {X : Nat → Value} {N : Nat} {m cap : Id → Nat} {st : St} {a : Act}

theorem fold_put (off : Nat) : ∀ (l : List Value) (k : Nat) (cells : Array Value), (l.zipIdx k).foldl (fun cs (p : Value × Nat) => cs.setIfInBounds (off + p.2) p.1) cells = putAll cells (off + k) l
  | [], _, _ => rfl
  | u :: l, k, cells => by
    simp only [List.zipIdx_cons, List.foldl_cons, putAll]
    rw [fold_put off l (k + 1)]
    rfl

/-- Values in order from place k on, each of so many cells. -/
def Lined (size : Nat) : Nat → List (Nat × Value) → Prop
  | _, [] => True
  | k, (i, v) :: l => i = k ∧ v.cells.size = size ∧ Lined size (k + 1) l

theorem fill_lined (size : Nat) : ∀ (ps : List (Nat × Value)) (k : Nat) (cells : Array Value), Lined size k ps → (k + ps.length) * size ≤ cells.size →
    ∃ arr, Instr.fill (fun i => some (i * size, size)) cells ps = some arr ∧ arr.size = cells.size ∧ (∀ q, q < k * size → arr[q]? = cells[q]?) ∧
      ∀ (j : Nat) (p : Nat × Value), ps[j]? = some p → ∀ r, r < size → arr[(k + j) * size + r]? = p.2.cells[r]?
  | [], k, cells, _, _ => ⟨cells, rfl, rfl, fun _ _ => rfl, fun j p h => by simp at h⟩
  | (i, v) :: ps, k, cells, h, hc => by
    unfold Lined at h
    obtain ⟨rfl, hv, hl⟩ := h
    simp only [List.length_cons] at hc
    have hle : (i + 1) * size ≤ cells.size := Nat.le_trans (Nat.mul_le_mul_right _ (by omega)) hc
    rw [Nat.succ_mul] at hle
    have hfold : v.cells.zipIdx.foldl (fun cs (x : Value × Nat) => cs.setIfInBounds (i * size + x.2) x.1) cells = putAll cells (i * size) v.cells.toList := by
      rw [← Array.foldl_toList, Array.toList_zipIdx]
      exact fold_put (i * size) v.cells.toList 0 cells
    obtain ⟨arr, g1, g2, g3, g4⟩ := fill_lined size ps (i + 1) (putAll cells (i * size) v.cells.toList) hl (by rw [putAll_size]; rw [show i + 1 + ps.length = i + (ps.length + 1) by omega]; exact hc)
    have hlen : v.cells.toList.length = size := by rw [Array.length_toList, hv]
    refine ⟨arr, ?_, by rw [g2, putAll_size], fun q hq => ?_, fun j p hp r hr => ?_⟩
    · simp only [Instr.fill]
      have hno : ¬ ((decide (v.cells.size ≠ size) || decide (i * size + v.cells.size > cells.size)) = true) := by
        rw [hv]
        simp only [ne_eq, not_true_eq_false, decide_false, Bool.false_or, decide_eq_true_eq]
        omega
      rw [if_neg hno]
      rw [← g1]
      congr 1
    · rw [g3 q (by rw [Nat.succ_mul]; omega), putAll_get _ _ _ _ (by rw [hlen]; exact hle), if_neg (by omega)]
    · cases j with
      | zero =>
        simp at hp
        subst hp
        rw [Nat.add_zero, g3 _ (by rw [Nat.succ_mul]; omega), putAll_get _ _ _ _ (by rw [hlen]; exact hle), if_pos (by omega)]
        rw [show i * size + r - i * size = r by omega]
        simp
      | succ j =>
        rw [show i + (j + 1) = i + 1 + j by omega]
        exact g4 j p (by simpa using hp) r hr

theorem litA_inv {size : Nat} : ∀ {ps : List (Nat × Operand)} {k : Nat} {es : List (List T)} {f : Eff}, litA st size k ps = some (es, f) →
    es.length = ps.length ∧ f = st.frzEffs (ps.flatMap fun p => (st.ev p.2).cells) ∧ (∀ v ∈ ps.flatMap (fun p => (st.ev p.2).cells), (st.toT v).isSome) ∧
      ∀ (j : Nat) (p : Nat × Operand), ps[j]? = some p → p.1 = k + j ∧ (st.ev p.2).cells.length = size ∧ ∃ e, es[j]? = some e ∧ st.toTs (st.ev p.2).cells = some e
  | [], k, es, f, h => by
    unfold litA at h
    cases h
    exact ⟨rfl, rfl, by simp, by simp⟩
  | (i, x) :: ps, k, es, f, h => by
    unfold litA at h
    split at h
    · rename_i hc
      obtain ⟨rfl, hsz⟩ := hc
      split at h
      · rename_i e es' f' h1 h2
        cases h
        obtain ⟨g1, g2, g3, g4⟩ := litA_inv h2
        obtain ⟨t1, t2, t3⟩ := toTs_some h1
        refine ⟨by simp [g1], ?_, fun v hv => ?_, fun j p hp => ?_⟩
        · have happ : ∀ (xs ys : List AV), st.frzEffs (xs ++ ys) = st.frzEffs xs ++ st.frzEffs ys := by
            intro xs ys
            induction xs with
            | nil => rfl
            | cons z xs ih => simp only [List.cons_append, St.frzEffs, ih, List.append_assoc]
          simp only [List.flatMap_cons]
          rw [happ, g2]
        · simp only [List.flatMap_cons, List.mem_append] at hv
          rcases hv with hv | hv
          · exact t2 v hv
          · exact g3 v hv
        · cases j with
          | zero =>
            simp at hp
            subst hp
            exact ⟨rfl, hsz, e, rfl, h1⟩
          | succ j =>
            obtain ⟨q1, q2, e', q3, q4⟩ := g4 j p (by simpa using hp)
            exact ⟨by omega, q2, e', by simpa using q3, q4⟩
      · cases h
    · cases h

theorem toT_one {s : St} {v : AV} (h : (s.toT v).isSome) : v.one = true := by
  cases v <;> first | rfl | simp [St.toT] at h

theorem St.Free.froze {s s' : St} {p : Id → Prop} (h : s.Free p) (hz : Froze s s') : s'.Free p := by
  refine ⟨fun t => by rw [hz.1.1]; exact h.tm t, fun t => by rw [hz.1.2]; exact h.gh t, fun id o ho => ?_, fun id hid => ?_⟩
  · rcases hz.avs ho with e | e
    · exact h.avs id o e
    · rw [e]; trivial
  · cases ho : s'.ob id with
    | none => rfl
    | some o => exact absurd (h.none id hid) (hz.live (by rw [ho]; simp))

theorem gives_buildSlice {o : Oper} {t e : TypeId} {len : Nat} {parts : Array (Nat × Operand)} {i : TI} (ho : o.op = .buildSlice t len parts) (h : RelAt w0 S0 own X N m cap S st a w) (hel : elemOf P t = some (e, i)) {d : Nat} (hf : st.Free (·.1 = d))
    (hlen : len = parts.size) (hlim : len * i.size ≤ 16777216) (hz : i.zero.length = i.size) (hcap : len ≤ maxLen) {es : List (List T)} {f : Eff} (hv : litA st i.size 0 parts.toList = some (es, f)) :
    ∃ u w' m' cap' S', Gives P o a w u w' ∧ RelAt w0 S0 own X N m' cap' S' ((st.eff f).setOb (d, 0) (some (.row i.size es))) a w' ∧ AVrep w' S' m' cap' ((st.eff f).setOb (d, 0) (some (.row i.size es))).ob (.row (d, 0) i.size 0 len) u ∧ Far d m m' cap cap' := by
  obtain ⟨ht, hi⟩ := elemOf_inv hel
  obtain ⟨inf, dd, z, q1, q2, q3, q4, q5, q6, q7⟩ := tinf_inv hi
  obtain ⟨l1, l2, l3, l4⟩ := litA_inv hv
  have hzs : z.cells.size = i.size := by rw [← hz, q7, Array.length_toList]
  subst l2
  obtain ⟨S', z1, z2, z3, z4⟩ := freeze_all h (s0 := st) _ (Froze.refl _) l3
  -- the values
  have hcell : ∀ (j : Nat) (p : Nat × Operand), parts.toList[j]? = some p → (a.eval p.2).cells.size = i.size ∧ ∃ el, es[j]? = some el ∧ Treps w S' el (a.eval p.2).cells.toList := by
    intro j p hp
    obtain ⟨p1, p2, el, p3, p4⟩ := l4 j p hp
    obtain ⟨t1, t2, t3⟩ := toTs_some p4
    have hone : (st.ev p.2).cells.all AV.one = true := List.all_eq_true.2 fun v hv => toT_one (t2 v hv)
    obtain ⟨hr, _⟩ := cells_rep (h.ev p.2) hone
    have hr' : AVreps w S' m cap (st.eff (st.frzEffs (parts.toList.flatMap fun p => (st.ev p.2).cells))).ob (st.ev p.2).cells (a.eval p.2).cells.toList := by
      refine AVreps.keep (p := fun _ => False) (Same.refl _ _) z2 ⟨fun i _ => ?_, fun i _ => ⟨rfl, rfl⟩⟩ _ _ (AV.frees_false _) hr
      exact z3.leads i
    refine ⟨by rw [← Array.length_toList, hr.len, p2], el, p3, ?_⟩
    refine toTs_rep z1 z3 p4 hr' fun id hm => z4 id ?_
    rcases hm with ⟨sz, k, n, hm⟩ | hm
    · exact .inl ⟨sz, k, n, List.mem_flatMap.2 ⟨p, List.mem_of_getElem? hp, hm⟩⟩
    · exact .inr (List.mem_flatMap.2 ⟨p, List.mem_of_getElem? hp, hm⟩)
  have hlined : ∀ (ps : List (Nat × Operand)) (k : Nat), (∀ (j : Nat) (p : Nat × Operand), ps[j]? = some p → p.1 = k + j ∧ (a.eval p.2).cells.size = i.size) → Lined i.size k (ps.map fun p => (p.1, a.eval p.2)) := by
    intro ps
    induction ps with
    | nil => intro k _; trivial
    | cons p ps ih =>
      intro k hp
      simp only [List.map_cons]
      unfold Lined
      obtain ⟨a1, a2⟩ := hp 0 p rfl
      refine ⟨by simpa using a1, a2, ih (k + 1) fun j q hq => ?_⟩
      obtain ⟨b1, b2⟩ := hp (j + 1) q (by simpa using hq)
      exact ⟨by omega, b2⟩
  have hL := hlined parts.toList 0 fun j p hp => ⟨(l4 j p hp).1, (hcell j p hp).1⟩
  have hesl : es.length = len := by rw [l1, Array.length_toList, hlen]
  obtain ⟨arr, r1, r2, r3, r4⟩ := fill_lined i.size (parts.toList.map fun p => (p.1, a.eval p.2)) 0 ((Array.range (len * i.size)).map (z.cells[· % z.cells.size]!)) hL (by simp [hlen])
  have hasz : arr.size = len * i.size := by rw [r2]; simp
  have hrun : (Instr.buildSlice t len (parts.map fun (p : Nat × Operand) => (p.1, a.eval p.2))).run P w = .ok (.slice (some ⟨w.heap.size, 0, none⟩) len len) (w.alloc (.cells arr e)) := by
    unfold Instr.buildSlice
    simp only [Sem.run_bind, run_underlying ht, Result.andThen_ok, runT_sizeOf hi]
    rw [if_neg (by omega)]
    have hfill : Instr.fill (fun i_1 => some (i_1 * i.size, i.size)) ((Array.range (len * i.size)).map (z.cells[· % z.cells.size]!)) (parts.map fun (p : Nat × Operand) => (p.1, a.eval p.2)).toList = some arr := by
      rw [← r1]
      simp
    by_cases hz0 : len * i.size = 0
    · have hr1 : (Array.range (len * i.size)).map (z.cells[· % z.cells.size]!) = #[] := by rw [hz0]; simp
      have hr0 : (Array.range (len * i.size)).map ((#[] : Array Value)[· % (#[] : Array Value).size]!) = #[] := by rw [hz0]; simp
      rw [hr1] at hfill
      simp only [if_pos hz0, Sem.run_bind, Sem.run_pure, Result.andThen_ok, hr0, hfill, newRow, newObj, Sem.run]
      rfl
    · have hzv : (zeroValue e).run P w = .ok z w := by simp [zeroValue, typeInfo, q1, q3, Sem.run]
      simp only [if_neg hz0, Sem.run_bind, Sem.run_pure, Result.andThen_ok, hzv, hfill, newRow, newObj, Sem.run]
      rfl
  have hfz := hf.mono (q := (· = (d, 0))) (fun id hid => by rw [hid])
  have hfz' := hfz.froze z3
  have hcur : (w.alloc (.cells arr e)).heap[w.heap.size]? = some (.cells arr e (0, 0)) := by show (w.heap.push _)[w.heap.size]? = _; simp
  have hE : Ereps (w.alloc (.cells arr e)) S' w.heap.size 0 i.size es := by
    rw [Ereps_iff]
    intro j el hj
    have hjl := (List.getElem?_eq_some_iff.1 hj).1
    obtain ⟨p, hp⟩ : ∃ p, parts.toList[j]? = some p := ⟨_, List.getElem?_eq_getElem (by omega)⟩
    obtain ⟨c1, el', c2, c3⟩ := hcell j p hp
    rw [hj] at c2
    cases c2
    obtain ⟨d1, d2⟩ := Treps_iff.1 c3
    refine ⟨by rw [← d1, Array.length_toList, c1], ?_⟩
    rw [Creps_iff]
    intro r x hr
    have hrl := (List.getElem?_eq_some_iff.1 hr).1
    have hrs : r < i.size := by rw [← d1, Array.length_toList, c1] at hrl; exact hrl
    have hval : (a.eval p.2).cells[r]? = some ((a.eval p.2).cells[r]'(by rw [c1]; exact hrs)) := Array.getElem?_eq_getElem _
    refine ⟨(a.eval p.2).cells[r]'(by rw [c1]; exact hrs), ?_, ?_⟩
    · have := r4 j (p.1, a.eval p.2) (by rw [List.getElem?_map, hp]; rfl) r hrs
      simp only [Nat.zero_add] at this
      simp only [World.cell?, hcur, Nat.zero_add]
      rw [this, hval]
      rfl
    · refine Trep.keep ?_ (fun _ hb => hb) x _ (d2 r x _ hr (by rw [Array.getElem?_toList]; exact hval))
      intro b hb
      exact heap_alloc_old w _ (z1.stab b hb)
  obtain ⟨k1, k2⟩ := z1.newRow (w' := w.alloc (.cells arr e)) (d := d) hfz' (g := w.heap.size) (c := len) (sz := i.size) (es := es) (cur := arr) (ty := e)
    (fun i' o' hi' => Nat.ne_of_lt (z1.obs i' o' hi').lt) (fun hs => Nat.lt_irrefl _ (z1.stab _ hs)) (.inl z1.after.size) (fun k hk _ => heap_alloc_old w _ hk) rfl rfl rfl (by show w.heap.size ≤ (w.heap.push _).size; simp) hcur hasz (by omega) hcap hE
  rw [hesl] at k2
  exact ⟨_, _, _, _, S', .inl (by simp [execOp, ho, hrun]), k1, k2, Far.upd _ _ _ _ _ _⟩

theorem litB_inv {size : Nat} : ∀ {ps : List (Nat × Operand)} {k : Nat} {es : List (List AV)}, litB st size k ps = some es →
    es.length = ps.length ∧ ∀ (j : Nat) (p : Nat × Operand), ps[j]? = some p → p.1 = k + j ∧ (st.ev p.2).cells.length = size ∧ (st.ev p.2).cells.all AV.one = true ∧ es[j]? = some (st.ev p.2).cells
  | [], k, es, h => by
    unfold litB at h
    cases h
    exact ⟨rfl, by simp⟩
  | (i, x) :: ps, k, es, h => by
    unfold litB at h
    split at h
    · rename_i hc
      obtain ⟨rfl, hsz, hone⟩ := hc
      cases hl : litB st size (i + 1) ps with
      | none => simp [hl] at h
      | some es' =>
        simp only [hl, Option.map_some, Option.some.injEq] at h
        subst h
        obtain ⟨g1, g2⟩ := litB_inv hl
        refine ⟨by simp [g1], fun j p hp => ?_⟩
        cases j with
        | zero =>
          simp at hp
          subst hp
          exact ⟨rfl, hsz, hone, rfl⟩
        | succ j =>
          obtain ⟨q1, q2, q3, q4⟩ := g2 j p (by simpa using hp)
          exact ⟨by omega, q2, q3, by simpa using q4⟩
    · cases h

theorem gives_buildSliceB {o : Oper} {t e : TypeId} {len : Nat} {parts : Array (Nat × Operand)} {i : TI} (ho : o.op = .buildSlice t len parts) (h : RelAt w0 S0 own X N m cap S st a w) (hel : elemOf P t = some (e, i)) {d : Nat} (hf : st.Free (·.1 = d))
    (hlen : len = parts.size) (hlim : len * i.size ≤ 16777216) (hz : i.zero.length = i.size) (hcap : len ≤ maxLen) {es : List (List AV)} (hv : litB st i.size 0 parts.toList = some es) :
    ∃ u w' m' cap', Gives P o a w u w' ∧ RelAt w0 S0 own X N m' cap' S (st.setOb (d, 0) (some (.big i.size es))) a w' ∧ AVrep w' S m' cap' (st.setOb (d, 0) (some (.big i.size es))).ob (.row (d, 0) i.size 0 len) u ∧ Far d m m' cap cap' := by
  obtain ⟨ht, hi⟩ := elemOf_inv hel
  obtain ⟨inf, dd, z, q1, q2, q3, q4, q5, q6, q7⟩ := tinf_inv hi
  obtain ⟨l1, l4⟩ := litB_inv hv
  have hzs : z.cells.size = i.size := by rw [← hz, q7, Array.length_toList]
  have hcell : ∀ (j : Nat) (p : Nat × Operand), parts.toList[j]? = some p → (a.eval p.2).cells.size = i.size ∧ AVreps w S m cap st.ob (st.ev p.2).cells (a.eval p.2).cells.toList ∧ ∀ x ∈ (a.eval p.2).cells.toList, Single x := by
    intro j p hp
    obtain ⟨p1, p2, p3, p4⟩ := l4 j p hp
    obtain ⟨hr, hs⟩ := cells_rep (h.ev p.2) p3
    exact ⟨by rw [← Array.length_toList, hr.len, p2], hr, hs⟩
  have hlined : ∀ (ps : List (Nat × Operand)) (k : Nat), (∀ (j : Nat) (p : Nat × Operand), ps[j]? = some p → p.1 = k + j ∧ (a.eval p.2).cells.size = i.size) → Lined i.size k (ps.map fun p => (p.1, a.eval p.2)) := by
    intro ps
    induction ps with
    | nil => intro k _; trivial
    | cons p ps ih =>
      intro k hp
      simp only [List.map_cons]
      unfold Lined
      obtain ⟨a1, a2⟩ := hp 0 p rfl
      refine ⟨by simpa using a1, a2, ih (k + 1) fun j q hq => ?_⟩
      obtain ⟨b1, b2⟩ := hp (j + 1) q (by simpa using hq)
      exact ⟨by omega, b2⟩
  have hL := hlined parts.toList 0 fun j p hp => ⟨(l4 j p hp).1, (hcell j p hp).1⟩
  have hesl : es.length = len := by rw [l1, Array.length_toList, hlen]
  obtain ⟨arr, r1, r2, r3, r4⟩ := fill_lined i.size (parts.toList.map fun p => (p.1, a.eval p.2)) 0 ((Array.range (len * i.size)).map (z.cells[· % z.cells.size]!)) hL (by simp [hlen])
  have hasz : arr.size = len * i.size := by rw [r2]; simp
  have hrun : (Instr.buildSlice t len (parts.map fun (p : Nat × Operand) => (p.1, a.eval p.2))).run P w = .ok (.slice (some ⟨w.heap.size, 0, none⟩) len len) (w.alloc (.cells arr e)) := by
    unfold Instr.buildSlice
    simp only [Sem.run_bind, run_underlying ht, Result.andThen_ok, runT_sizeOf hi]
    rw [if_neg (by omega)]
    have hfill : Instr.fill (fun i_1 => some (i_1 * i.size, i.size)) ((Array.range (len * i.size)).map (z.cells[· % z.cells.size]!)) (parts.map fun (p : Nat × Operand) => (p.1, a.eval p.2)).toList = some arr := by
      rw [← r1]
      simp
    by_cases hz0 : len * i.size = 0
    · have hr1 : (Array.range (len * i.size)).map (z.cells[· % z.cells.size]!) = #[] := by rw [hz0]; simp
      have hr0 : (Array.range (len * i.size)).map ((#[] : Array Value)[· % (#[] : Array Value).size]!) = #[] := by rw [hz0]; simp
      rw [hr1] at hfill
      simp only [if_pos hz0, Sem.run_bind, Sem.run_pure, Result.andThen_ok, hr0, hfill, newRow, newObj, Sem.run]
      rfl
    · have hzv : (zeroValue e).run P w = .ok z w := by simp [zeroValue, typeInfo, q1, q3, Sem.run]
      simp only [if_neg hz0, Sem.run_bind, Sem.run_pure, Result.andThen_ok, hzv, hfill, newRow, newObj, Sem.run]
      rfl
  have hfz := hf.mono (q := (· = (d, 0))) (fun id hid => by rw [hid])
  have hcur : (w.alloc (.cells arr e)).heap[w.heap.size]? = some (.cells arr e (0, 0)) := by show (w.heap.push _)[w.heap.size]? = _; simp
  have hel' : ∀ e ∈ es, e.length = i.size := fun e he => by
    obtain ⟨j, hj⟩ := List.getElem?_of_mem he
    have hjl := (List.getElem?_eq_some_iff.1 hj).1
    obtain ⟨p, hp⟩ : ∃ p, parts.toList[j]? = some p := ⟨_, List.getElem?_eq_getElem (by omega)⟩
    obtain ⟨_, p2, _, p4⟩ := l4 j p hp
    rw [hj] at p4
    cases p4
    exact p2
  have hcells : ∀ (k : Nat) (v : AV), es.flatten[k]? = some v → ∃ u : Value, arr[k]? = some u ∧ AVrep w S m cap st.ob v u ∧ Single u := by
    intro k v hk
    obtain ⟨j, q, el, rfl, hq, he, hv2⟩ := flatten_at hel' hk
    have hjl := (List.getElem?_eq_some_iff.1 he).1
    obtain ⟨p, hp⟩ : ∃ p, parts.toList[j]? = some p := ⟨_, List.getElem?_eq_getElem (by omega)⟩
    obtain ⟨_, p2, _, p4⟩ := l4 j p hp
    rw [he] at p4
    cases p4
    obtain ⟨c1, c2, c3⟩ := hcell j p hp
    have hval : (a.eval p.2).cells[q]? = some ((a.eval p.2).cells[q]'(by rw [c1]; exact hq)) := Array.getElem?_eq_getElem _
    refine ⟨(a.eval p.2).cells[q]'(by rw [c1]; exact hq), ?_, (AVreps_iff.1 c2).2 q v _ hv2 (by rw [Array.getElem?_toList]; exact hval), c3 _ (List.mem_of_getElem? (i := q) (by rw [Array.getElem?_toList]; exact hval))⟩
    have := r4 j (p.1, a.eval p.2) (by rw [List.getElem?_map, hp]; rfl) q hq
    simp only [Nat.zero_add] at this
    rw [this, hval]
  have hfl := flatten_len hel'
  have hal : arr.toList.length = len * i.size := by rw [Array.length_toList]; exact hasz
  have htk : arr.toList.take (es.length * i.size) = arr.toList := by rw [hesl, ← hal, List.take_length]
  obtain ⟨k1, k2⟩ := h.newBig (w' := w.alloc (.cells arr e)) (d := d) hfz (g := w.heap.size) (c := len) (sz := i.size) (es := es) (us := arr.toList) (cur := arr) (ty := e)
    (fun i' o' hi' => Nat.ne_of_lt (h.obs i' o' hi').lt) (fun hs => Nat.lt_irrefl _ (h.stab _ hs)) (.inl h.after.size) (fun k hk _ => heap_alloc_old w _ hk) rfl rfl rfl (by show w.heap.size ≤ (w.heap.push _).size; simp) hcur hasz (by omega) hcap
    (by
      rw [AVreps_iff]
      refine ⟨by rw [hal, hfl, hesl], fun k v u hk hu => ?_⟩
      obtain ⟨u', g1, g2, _⟩ := hcells k v hk
      rw [Array.getElem?_toList, g1] at hu
      cases hu
      exact g2) htk hel'
    (by
      intro u hu
      obtain ⟨k, hk⟩ := List.getElem?_of_mem hu
      have hkl := (List.getElem?_eq_some_iff.1 hk).1
      obtain ⟨v, hv'⟩ : ∃ v, es.flatten[k]? = some v := ⟨_, List.getElem?_eq_getElem (by rw [hfl, hesl, ← hal]; exact hkl)⟩
      obtain ⟨u', g1, _, g3⟩ := hcells k v hv'
      rw [Array.getElem?_toList, g1] at hk
      cases hk
      exact g3)
    (by
      refine frees_mem fun x hx => ?_
      obtain ⟨el, he, hx⟩ := List.mem_flatten.1 hx
      obtain ⟨j, hj⟩ := List.getElem?_of_mem he
      have hjl := (List.getElem?_eq_some_iff.1 hj).1
      obtain ⟨p, hp⟩ : ∃ p, parts.toList[j]? = some p := ⟨_, List.getElem?_eq_getElem (by omega)⟩
      obtain ⟨_, _, _, p4⟩ := l4 j p hp
      rw [hj] at p4
      cases p4
      exact mem_frees (AV.cells_free (hfz.ev p.2)) x hx)
  rw [hesl] at k2
  exact ⟨_, _, _, _, .inl (by simp [execOp, ho, hrun]), k1, k2, Far.upd _ _ _ _ _ _⟩

end Cal
