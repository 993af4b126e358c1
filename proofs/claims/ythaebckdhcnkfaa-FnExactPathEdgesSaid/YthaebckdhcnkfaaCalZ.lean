/- A calculus of our own, twenty-fifth part: what a call returns. No program is named here. -/
import Derived.Test.YthaebckdhcnkfaaCalY
set_option linter.unusedSimpArgs false
set_option linter.unusedVariables false
namespace Cal
open Go Go.RowKit

variable {P : Program} {w0 w : World} {S0 S : Nat → Prop} {own : List Nat} {N : Nat} {m cap : Id → Nat} {st : St} {a : Act} {d : Nat}

/-- The new objects' ids, from k on. -/
def from' (d k : Nat) : Id → Prop := fun id => id.1 = d ∧ k ≤ id.2

theorem Free.setOb {s : St} {p : Id → Prop} (h : s.Free p) {id : Id} (hp : ¬ p id) {o : Option Ob} (ho : ∀ cs, o = some (.var cs) → AV.frees p cs) : (s.setOb id o).Free p := by
  refine ⟨h.tm, fun i cs hi => ?_, fun i hi => ?_⟩
  · by_cases e : i = id
    · subst e
      simp only [St.setOb, if_true] at hi
      exact ho cs hi
    · simp only [St.setOb, if_neg e] at hi
      exact h.var i cs hi
  · have e : i ≠ id := fun e => hp (e ▸ hi)
    simp only [St.setOb, if_neg e]
    exact h.none i hi

/-- What returning gives. -/
structure Ret (w : World) (w0 : World) (S0 : Nat → Prop) (own : List Nat) (N : Nat) (S : Nat → Prop) (m cap : Id → Nat) (st : St) (a : Act) (d k : Nat) (bs : List Nat) (m' cap' : Id → Nat) (st' : St) (k' : Nat) : Prop where
  rel : RelAt w0 S0 own N m' cap' S st' a w
  le : k ≤ k'
  free : st'.Free (from' d k')
  old : ∀ id, ¬ from' d k id → m' id = m id ∧ cap' id = cap id ∧ st'.ob id = st.ob id
  tm : st'.tm = st.tm
  new : ∀ id, st'.ob id ≠ none → st.ob id ≠ none ∨ m' id ∈ bs

mutual
theorem ret_rep : ∀ (r : RV) {m cap : Id → Nat} {st : St} {k : Nat} {u : Value} {bs : List Nat}, RelAt w0 S0 own N m cap S st a w → st.Free (from' d k) → RVrep w S r u bs → bs.Nodup →
    (∀ b ∈ bs, ¬ S b ∧ (w0.heap.size ≤ b ∨ b ∈ own) ∧ ∀ id, st.ob id ≠ none → m id ≠ b) →
    ∃ m' cap', Ret w w0 S0 own N S m cap st a d k bs m' cap' (st.eff (retA d k r).2.1) (retA d k r).2.2 ∧ AVrep w S m' cap' (st.eff (retA d k r).2.1).ob (retA d k r).1 u ∧ (retA d k r).1.free (from' d (retA d k r).2.2)
  | .t x, m, cap, st, k, u, bs, h, hf, hr, hn, hb => by
    unfold RVrep at hr
    obtain ⟨rfl, hr⟩ := hr
    refine ⟨m, cap, ⟨h, Nat.le_refl _, hf, fun id _ => ⟨rfl, rfl, rfl⟩, rfl, fun id hid => .inl hid⟩, ?_, ?_⟩
    · simp only [retA]; unfold AVrep; exact hr
    · simp only [retA]; unfold AV.free; trivial
  | .own sz es, m, cap, st, k, u, bs, h, hf, hr, hn, hb => by
    unfold RVrep at hr
    obtain ⟨b, c, rfl, rfl, hr⟩ := hr
    obtain ⟨b1, b2, b3⟩ := hb b (by simp)
    have hf1 : st.Free (· = (d, k)) := hf.mono fun id hid => by subst hid; exact ⟨rfl, Nat.le_refl _⟩
    obtain ⟨hr1, hr2, hr3, hr4⟩ := hr
    have hrel := h.newAt (w' := w) hf1 (o := .row sz es) (g := b) (c := c) (fun i o' hi => b3 i (by rw [hi]; simp)) b1 b2 (fun _ _ _ => rfl) rfl rfl rfl (Nat.le_refl _) ⟨⟨by rw [upd_same, upd_same]; exact hr1, by rw [upd_same]; exact hr2, by rw [upd_same]; exact hr3, by rw [upd_same]; exact hr4⟩, by rw [upd_same]; exact b1⟩
    have hrow := AVrep_row (w := w) (S := S) (m := upd m (d, k) b) (cap := upd cap (d, k) c) (ob := (st.setOb (d, k) (some (.row sz es))).ob) (id := (d, k)) (sz := sz) (es := es) (by simp [St.setOb]) (by rw [upd_same]; exact hr2) (by rw [upd_same]; exact hr3)
    rw [upd_same, upd_same] at hrow
    refine ⟨upd m (d, k) b, upd cap (d, k) c, ⟨hrel, by simp only [retA]; omega, ?_, fun id hid => ?_, rfl, fun id hid => ?_⟩, hrow, ?_⟩
    · exact Free.setOb (hf.mono fun id hid => ⟨hid.1, by have := hid.2; simp only [retA] at this; omega⟩) (fun hid => by have := hid.2; simp only [retA] at this; omega) (fun cs hcs => by cases hcs)
    · have e : id ≠ (d, k) := fun e => hid (by subst e; exact ⟨rfl, Nat.le_refl _⟩)
      simp [retA, upd, e, St.eff, St.setOb]
    · by_cases e : id = (d, k)
      · right; subst e; simp [upd]
      · left; simpa [retA, St.eff, St.setOb, e] using hid
    · simp only [retA]; unfold AV.free; exact fun hid => by have := hid.2; simp only at this; omega
  | .agg cs, m, cap, st, k, u, bs, h, hf, hr, hn, hb => by
    unfold RVrep at hr
    obtain ⟨us, rfl, hr⟩ := hr
    obtain ⟨m', cap', h1, h2, h3⟩ := rets_rep cs h hf hr hn hb
    refine ⟨m', cap', by simpa only [retA] using h1, ?_, ?_⟩
    · simp only [retA]; unfold AVrep; exact ⟨us, rfl, h2⟩
    · simp only [retA]; unfold AV.free; exact h3
  | .tup cs, m, cap, st, k, u, bs, h, hf, hr, hn, hb => by
    unfold RVrep at hr
    obtain ⟨us, rfl, hr⟩ := hr
    obtain ⟨m', cap', h1, h2, h3⟩ := rets_rep cs h hf hr hn hb
    refine ⟨m', cap', by simpa only [retA] using h1, ?_, ?_⟩
    · simp only [retA]; unfold AVrep; exact ⟨us, rfl, h2⟩
    · simp only [retA]; unfold AV.free; exact h3
  | .var cs, m, cap, st, k, u, bs, h, hf, hr, hn, hb => by
    unfold RVrep at hr
    obtain ⟨b, rfl, rfl, ⟨arr, ty, k1, k2⟩, k3⟩ := hr
    obtain ⟨b1, b2, b3⟩ := hb b (by simp)
    have hf1 : st.Free (· = (d, k)) := hf.mono fun id hid => by subst hid; exact ⟨rfl, Nat.le_refl _⟩
    have hrel := h.newAt (w' := w) hf1 (o := .var (cs.map .t)) (g := b) (c := 0) (fun i o' hi => b3 i (by rw [hi]; simp)) b1 b2 (fun _ _ _ => rfl) rfl rfl rfl (Nat.le_refl _) ⟨⟨arr, ty, by rw [upd_same]; exact k1, (creps_cells k1 k2).1 k3⟩, by rw [upd_same]; exact b1⟩
    refine ⟨upd m (d, k) b, upd cap (d, k) 0, ⟨hrel, by simp only [retA]; omega, ?_, fun id hid => ?_, rfl, fun id hid => ?_⟩, ?_, ?_⟩
    · exact Free.setOb (hf.mono fun id hid => ⟨hid.1, by have := hid.2; simp only [retA] at this; omega⟩) (fun hid => by have := hid.2; simp only [retA] at this; omega) (fun cs' hcs => by cases hcs; exact AV.frees_map_t _ _)
    · have e : id ≠ (d, k) := fun e => hid (by subst e; exact ⟨rfl, Nat.le_refl _⟩)
      simp [retA, upd, e, St.eff, St.setOb]
    · by_cases e : id = (d, k)
      · right; subst e; simp [upd]
      · left; simpa [retA, St.eff, St.setOb, e] using hid
    · simp only [retA]
      unfold AVrep
      refine ⟨_, rfl, fun cs' _ _ => by rw [upd_same], fun sz es hes => ?_⟩
      have ho : (st.eff [((d, k), some (Ob.var (cs.map .t)))]).ob (d, k) = some (.var (cs.map .t)) := by simp [St.eff, St.setOb]
      rw [ho] at hes
      rcases hes with hes | hes <;> cases hes
    · simp only [retA]; unfold AV.free; exact fun hid => by have := hid.2; simp only at this; omega
theorem rets_rep : ∀ (rs : List RV) {m cap : Id → Nat} {st : St} {k : Nat} {us : List Value} {bs : List Nat}, RelAt w0 S0 own N m cap S st a w → st.Free (from' d k) → RVreps w S rs us bs → bs.Nodup →
    (∀ b ∈ bs, ¬ S b ∧ (w0.heap.size ≤ b ∨ b ∈ own) ∧ ∀ id, st.ob id ≠ none → m id ≠ b) →
    ∃ m' cap', Ret w w0 S0 own N S m cap st a d k bs m' cap' (st.eff (retAs d k rs).2.1) (retAs d k rs).2.2 ∧ AVreps w S m' cap' (st.eff (retAs d k rs).2.1).ob (retAs d k rs).1 us ∧ AV.frees (from' d (retAs d k rs).2.2) (retAs d k rs).1
  | [], m, cap, st, k, us, bs, h, hf, hr, hn, hb => by
    unfold RVreps at hr
    obtain ⟨rfl, rfl⟩ := hr
    refine ⟨m, cap, ⟨h, Nat.le_refl _, hf, fun id _ => ⟨rfl, rfl, rfl⟩, rfl, fun id hid => .inl hid⟩, ?_, ?_⟩
    · simp only [retAs]; unfold AVreps; rfl
    · simp only [retAs]; unfold AV.frees; trivial
  | r :: rs, m, cap, st, k, us, bs, h, hf, hr, hn, hb => by
    unfold RVreps at hr
    obtain ⟨u, us', b1, b2, rfl, rfl, hr1, hr2⟩ := hr
    rw [List.nodup_append] at hn
    obtain ⟨n1, n2, n3⟩ := hn
    obtain ⟨m1, cap1, g1, g2, g3⟩ := ret_rep r h hf hr1 n1 fun b hb1 => hb b (by simp [hb1])
    obtain ⟨m2, cap2, q1, q2, q3⟩ := rets_rep rs g1.rel g1.free hr2 n2 fun b hb2 => by
      obtain ⟨e1, e2, e3⟩ := hb b (by simp [hb2])
      refine ⟨e1, e2, fun id hid he => ?_⟩
      rcases g1.new id hid with e | e
      · by_cases hfr : from' d k id
        · exact e (hf.none id hfr)
        · obtain ⟨e4, _, _⟩ := g1.old id hfr
          rw [e4] at he
          exact e3 id e he
      · exact n3 _ e _ hb2 he
    have heff : st.eff (retAs d k (r :: rs)).2.1 = (st.eff (retA d k r).2.1).eff (retAs d (retA d k r).2.2 rs).2.1 := by
      simp only [retAs]
      rw [eff_append]
    have hk2 : (retAs d k (r :: rs)).2.2 = (retAs d (retA d k r).2.2 rs).2.2 := by simp only [retAs]
    have hv2 : (retAs d k (r :: rs)).1 = (retA d k r).1 :: (retAs d (retA d k r).2.2 rs).1 := by simp only [retAs]
    have hmono : ∀ id, from' d (retA d k r).2.2 id → from' d k id := fun id hid => ⟨hid.1, Nat.le_trans g1.le hid.2⟩
    have hmono2 : ∀ id, from' d (retAs d (retA d k r).2.2 rs).2.2 id → from' d (retA d k r).2.2 id := fun id hid => ⟨hid.1, Nat.le_trans q1.le hid.2⟩
    refine ⟨m2, cap2, ?_, ?_, ?_⟩
    · rw [heff, hk2]
      refine ⟨q1.rel, Nat.le_trans g1.le q1.le, q1.free, fun id hid => ?_, q1.tm.trans g1.tm, fun id hid => ?_⟩
      · obtain ⟨e1, e2, e3⟩ := g1.old id hid
        obtain ⟨f1, f2, f3⟩ := q1.old id fun hh => hid (hmono id hh)
        exact ⟨f1.trans e1, f2.trans e2, f3.trans e3⟩
      · rcases q1.new id hid with e | e
        · rcases g1.new id e with e' | e'
          · exact .inl e'
          · right
            by_cases hfr : from' d (retA d k r).2.2 id
            · exact absurd (g1.free.none id hfr) e
            · obtain ⟨f1, _, _⟩ := q1.old id hfr
              rw [f1]
              simp [e']
        · right; simp [e]
    · rw [heff, hv2]
      unfold AVreps
      refine ⟨u, us', rfl, ?_, q2⟩
      refine AVrep.keep (p := from' d (retA d k r).2.2) (Same.refl _ _) (fun _ hb => hb) ⟨fun id hid => ?_, fun id hid => ?_⟩ _ _ g3 g2
      · obtain ⟨_, _, f3⟩ := q1.old id hid
        rw [f3]
        exact Ob.leads_refl _
      · obtain ⟨f1, f2, _⟩ := q1.old id hid
        exact ⟨f1, f2⟩
    · rw [hk2, hv2]
      unfold AV.frees
      exact ⟨AV.free_mono (fun id hid => hmono2 id hid) _ g3, q3⟩
end

end Cal
