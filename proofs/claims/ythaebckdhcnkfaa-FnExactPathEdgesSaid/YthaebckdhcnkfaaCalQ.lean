/- A calculus of our own, sixteenth part: the append. No program is named here. -/
import Derived.Test.YthaebckdhcnkfaaCalP
set_option linter.unusedSimpArgs false
set_option linter.unusedVariables false
namespace Cal
open Go Go.RowKit

variable {P : Program} {w0 w : World} {S0 S : Nat → Prop} {own : List Nat} {N : Nat} {m cap : Id → Nat} {st : St} {a : Act}

theorem holds_take {w' : World} {g : Nat} {cur : Array Value} {ty : TypeId} {fr : Nat × Nat} (h : w'.heap[g]? = some (.cells cur ty fr)) {n : Nat} {us : List Value} (hu : cur.toList.take n = us) : Holds w' g 0 us := by
  intro j u hj
  have := holds_cells h 0 n j u (by simpa [hu] using hj)
  simpa using this

/-- A new row in a block of its own. -/
theorem RelAt.newRow {w' : World} (h : RelAt w0 S0 own N m cap S st a w) {d : Nat} (hf : st.Free (· = (d, 0))) {g c sz : Nat} {es : List (List T)} {cur : Array Value} {ty : TypeId}
    (hg : ∀ i o', st.ob i = some o' → m i ≠ g) (hS : ¬ S g) (hm : w0.heap.size ≤ g ∨ g ∈ own) (hk : ∀ k, k < w.heap.size → k ≠ g → w'.heap[k]? = w.heap[k]?) (h1 : w'.os = w.os) (h2 : w'.tape = w.tape) (h3 : w'.output = w.output) (h4 : w.heap.size ≤ w'.heap.size)
    (hb : w'.heap[g]? = some (.cells cur ty (0, 0))) (hsz : cur.size = c * sz) (hn : es.length ≤ c) (hc : c ≤ maxLen) (hE : Ereps w' S g 0 sz es) :
    RelAt w0 S0 own N (upd m (d, 0) g) (upd cap (d, 0) c) S (st.setOb (d, 0) (some (.row sz es))) a w' ∧
    AVrep w' S (upd m (d, 0) g) (upd cap (d, 0) c) (st.setOb (d, 0) (some (.row sz es))).ob (.row (d, 0) sz 0 es.length) (.slice (some ⟨g, 0, none⟩) es.length c) := by
  refine ⟨h.newAt hf hg hS hm hk h1 h2 h3 h4 ⟨⟨⟨cur, ty, by rw [upd_same]; exact hb, by rw [upd_same]; exact hsz⟩, by rw [upd_same]; exact hn, by rw [upd_same]; exact hc, by rw [upd_same]; exact hE⟩, by rw [upd_same]; exact hS⟩, ?_⟩
  have := AVrep_row (w := w') (S := S) (m := upd m (d, 0) g) (cap := upd cap (d, 0) c) (ob := (st.setOb (d, 0) (some (.row sz es))).ob) (id := (d, 0)) (sz := sz) (es := es) (by simp [St.setOb]) (by rw [upd_same]; exact hn) (by rw [upd_same]; exact hc)
  rw [upd_same, upd_same] at this
  exact this

theorem fine_inv {i : TI} (h : ¬ i.fine = false) : i.zero.length = i.size ∧ 0 < i.size ∧ 0 < i.bytes := by
  simp only [TI.fine, Bool.not_eq_false, Bool.and_eq_true, beq_iff_eq, decide_eq_true_eq] at h
  exact ⟨h.1.1, h.1.2, h.2⟩

theorem gives_append {o : Oper} {t e : TypeId} {x y : Operand} {i : TI} (ho : o.op = .call ⟨.builtin .append, #[x, y], #[t, t]⟩) (h : RelAt w0 S0 own N m cap S st a w) (hel : elemOf P t = some (e, i)) {d : Nat} (hf : st.Free (·.1 = d))
    {es : List (List T)} (hy : elemsA st i.size (st.ev y) = some es) {v : AV} {f : Eff} (hv : appendA d st i (st.ev x) es = some (v, f)) :
    ∃ u w' m' cap', Gives P o a w u w' ∧ RelAt w0 S0 own N m' cap' S (st.eff f) a w' ∧ AVrep w' S m' cap' (st.eff f).ob v u ∧ Far d m m' cap cap' := by
  obtain ⟨ht, hi⟩ := elemOf_inv hel
  obtain ⟨inf, dd, z, q1, q2, q3, q4, q5, q6, q7⟩ := tinf_inv hi
  obtain ⟨A, c', us, e1, e2, e3, e4, e5⟩ := elems_move h (h.ev y) hy
  have hx := h.ev x
  have gv : ∀ {u : Value} {w' : World}, (Builtin.append_ #[t, t] o.type #[a.eval x, a.eval y]).run P w = .ok u w' → Gives P o a w u w' := fun hr => .inl (by simp [execOp, ho, resolve, invoke, builtin, hr])
  unfold appendA at hv
  split at hv
  · cases hv
  rename_i hfine
  obtain ⟨f1, f2, f3⟩ := fine_inv hfine
  have hzs : z.cells.size = i.size := by rw [← f1, q7, Array.length_toList]
  have hsmall : ∀ n : Nat, n * i.bytes ≤ lim → n ≤ maxLen := fun n hn => by
    have : n * 1 ≤ n * i.bytes := Nat.mul_le_mul_left _ f3
    unfold lim at hn
    unfold maxLen
    omega
  have hf0 : st.Free (· = (d, 0)) := hf.mono fun id hid => by rw [hid]
  split at hv
  · rename_i hp
    rw [hp] at hx
    obtain ⟨hx, _⟩ := AVrep_v_inv hx
    split at hv
    · rename_i hb
      by_cases h0 : es.length = 0
      · rw [if_pos h0] at hv
        cases hv
        refine ⟨.slice none 0 0, w, m, cap, gv ?_, h, AVrep_v rfl, Far.refl _ _ _⟩
        rw [hx, e1, h0]
        cases A <;> simp [Builtin.append_, run_underlying ht, Go.sizeOf, typeInfo, q1, Builtin.lenOf, Builtin.firstCells, loadCells, loadCellsFrom]
      · rw [if_neg h0] at hv
        cases hv
        obtain ⟨b, off, rfl, hh⟩ := e4 (by omega)
        have hnews : ∀ j u, us[j]? = some u → w.cell? ((⟨b, off, none⟩ : Addr).add j) = some u := fun j u hj => by rw [add_none]; exact hh j u hj
        obtain ⟨v', w', r1, r2, r3, r4, r5⟩ := run_append_own_at (P := P) w w.heap.size t o.type e inf z i.size i.bytes ht q1 q3 (by rw [q5]) (by rw [q6]) hzs f2 (.slice none 0 0) 0 [] ⟨by simp, .inl ⟨rfl, rfl⟩⟩ ⟨b, off, none⟩ es.length c' us e2 hnews (fun u hu => single_one (e3 u hu)) (by rw [Nat.zero_add]; exact hsmall _ hb) (by rw [Nat.zero_add]; unfold lim at hb; exact hb) (Nat.le_refl _)
        rcases r2.2 with ⟨rfl, hz0⟩ | ⟨g, cp, cur, rfl, hge, hbl, hncap, hcm, hcs, htk⟩
        · omega
        · simp only [Nat.zero_add, List.nil_append] at hncap htk r1
          have hsame : Same S w w' := fun k hk => r3.block k (h.stab k hk) (by simp [Value.ownBlock])
          have hS : ¬ S g := fun hs => by have := h.stab g hs; omega
          obtain ⟨k1, k2⟩ := h.newRow (w' := w') hf0 (es := es) (sz := i.size) (fun i' o' hi' he => by have := (h.obs i' o' hi').lt; omega) hS (.inl (Nat.le_trans h.after.size hge)) (fun k hk _ => r3.block k hk (by simp [Value.ownBlock])) r3.os r3.tape r3.output r3.size hbl hcs hncap hcm (e5 w' g 0 hsame (holds_take hbl htk))
          exact ⟨_, w', _, _, gv (by rw [hx, e1]; exact r1), by simpa [St.eff] using k1, by simpa [St.eff] using k2, Far.upd _ _ _ _ _ _⟩
    · cases hv
  · rename_i id sz0 n hp
    rw [hp] at hx
    split at hv
    · rename_i sz fs hob
      split at hv
      · rename_i hc
        obtain ⟨hc1, hc2, hc3⟩ := hc
        subst hc1
        cases hv
        unfold AVrep at hx
        obtain ⟨A0, c, x1, x2, x3, x4, _, x5⟩ := hx
        obtain ⟨rfl, x6, x7, x8, x9⟩ := x5 _ fs (.inl hob)
        obtain ⟨rfl, rfl⟩ := x9 rfl
        obtain ⟨⟨⟨arr, ty, k1, k2⟩, k3, k4, k5⟩, k6⟩ := h.obs id _ hob
        have hd := h.drop id
        have hfd : (st.setOb id none).Free (· = (d, 0)) := by
          refine ⟨hf0.tm, fun i' cs hcs => hf0.var i' cs ?_, fun i' hi' => ?_⟩
          · by_cases e' : i' = id
            · subst e'; simp [St.setOb] at hcs
            · simpa [St.setOb, e'] using hcs
          · by_cases e' : i' = id
            · subst e'; simp [St.setOb]
            · simp only [St.setOb, if_neg e']; exact hf0.none i' hi'
        have hgone : ∀ i' o', (st.setOb id none).ob i' = some o' → st.ob i' = some o' ∧ m i' ≠ m id := fun i' o' hi' => by
          by_cases e' : i' = id
          · subst e'; simp [St.setOb] at hi'
          · have : st.ob i' = some o' := by simpa [St.setOb, e'] using hi'
            exact ⟨this, fun he => e' (h.inj i' id (by rw [this]; simp) (by rw [hob]; simp) he)⟩
        obtain ⟨vs, g1, g2, g3, g4⟩ := k5.move
        have hnl : n + es.length = (fs ++ es).length := by rw [List.length_append, hc2]
        by_cases hroom : n + es.length ≤ cap id
        · obtain ⟨w', r1, r2, r3, r4, r5, r6, r7⟩ := run_room (P := P) ht hi k1 hroom (by rw [k2]; exact Nat.le_refl _) e2 e4 e3 o.type
          have hsame : Same S w w' := fun k hk => r3 k fun e' => k6 (e' ▸ hk)
          have hH : Holds w' (m id) 0 (vs ++ us) := by
            have hlen : n * i.size + us.length ≤ arr.size := by
              rw [e2, ← Nat.add_mul, k2]
              exact Nat.mul_le_mul_right _ hroom
            intro j u hj
            unfold World.cell?
            simp only [r2, Nat.zero_add]
            rw [if_neg (by simp), putAll_get _ _ _ _ hlen]
            have hvl : vs.length = n * i.size := by rw [g1, hc2]
            by_cases hjn : j < vs.length
            · rw [List.getElem?_append_left hjn] at hj
              rw [if_neg (by omega)]
              have := g2 j u hj
              unfold World.cell? at this
              simp only [k1, Nat.zero_add] at this
              simpa using this
            · rw [List.getElem?_append_right (by omega)] at hj
              have hju := (List.getElem?_eq_some_iff.1 hj).1
              rw [if_pos (by omega)]
              rw [hvl] at hj
              exact hj
          obtain ⟨hH1, hH2⟩ := hH.split
          have hE : Ereps w' S (m id) 0 i.size (fs ++ es) := (g4 w' (m id) 0 hsame hH1).append (e5 w' (m id) _ hsame (by rw [Nat.zero_add, ← g1]; simpa using hH2))
          obtain ⟨l1, l2⟩ := hd.newRow (w' := w') hfd (es := fs ++ es) (sz := i.size) (fun i' o' hi' => (hgone i' o' hi').2) k6 (h.mine id _ hob) (fun k _ hk => r3 k hk) r4 r5 r6 (by omega) r2 (by rw [putAll_size]; exact k2) (by rw [← hnl]; exact hroom) k4 hE
          rw [← hnl] at l2
          exact ⟨_, w', _, _, gv (by rw [x1, e1]; exact r1), by simpa [St.eff] using l1, by simpa [St.eff] using l2, Far.upd _ _ _ _ _ _⟩
        · have hpos : 0 < es.length := by omega
          obtain ⟨b, off, rfl, hh⟩ := e4 hpos
          have hnews : ∀ j u, us[j]? = some u → w.cell? ((⟨b, off, none⟩ : Addr).add j) = some u := fun j u hj => by rw [add_none]; exact hh j u hj
          have holds : ∀ j u, vs[j]? = some u → w.cell? ((⟨m id, 0, none⟩ : Addr).add j) = some u := fun j u hj => by rw [add_none]; exact g2 j u hj
          obtain ⟨v', w', r1, r2, r3⟩ := run_append_arg_grows (P := P) w t o.type e inf z i.size i.bytes ht q1 q3 (by rw [q5]) (by rw [q6]) hzs f2 ⟨m id, 0, none⟩ n (cap id) vs (by rw [g1, hc2]) holds ⟨b, off, none⟩ es.length c' us e2 hnews (by omega) (hsmall _ hc3) (by unfold lim at hc3; exact hc3)
          rcases r2.2 with ⟨rfl, hz0⟩ | ⟨g, cp, cur, rfl, hge, hbl, hncap, hcm, hcs, htk⟩
          · omega
          · have hsame : Same S w w' := fun k hk => r3.block k (h.stab k hk) (by simp)
            have hS : ¬ S g := fun hs => by have := h.stab g hs; omega
            obtain ⟨hH1, hH2⟩ := (holds_take hbl htk).split
            have hE : Ereps w' S g 0 i.size (fs ++ es) := (g4 w' g 0 hsame hH1).append (e5 w' g _ hsame (by rw [Nat.zero_add, ← g1]; simpa using hH2))
            obtain ⟨l1, l2⟩ := hd.newRow (w' := w') hfd (es := fs ++ es) (sz := i.size) (fun i' o' hi' he => by have := (h.obs i' o' (hgone i' o' hi').1).lt; omega) hS (.inl (Nat.le_trans h.after.size hge)) (fun k hk _ => r3.block k hk (by simp)) r3.os r3.tape r3.output r3.size hbl hcs (by rw [← hnl]; exact hncap) hcm hE
            rw [← hnl] at l2
            exact ⟨_, w', _, _, gv (by rw [x1, e1]; exact r1), by simpa [St.eff] using l1, by simpa [St.eff] using l2, Far.upd _ _ _ _ _ _⟩
      · cases hv
    · cases hv
  · cases hv

end Cal
