/- A part of the proof: a calculus of our own over the model's code, and contracts of the program's functions. -/
import Derived.Test.YthiflnpbamlinaaG13
/- Walks of a graph: what is cheaper than all that is shorter; the rounds' invariant. -/
set_option linter.unusedSimpArgs false
set_option linter.unusedVariables false
namespace Cal
open Go Go.Proofs
variable {g : Gr} {s t : Int}
theorem VG.weightOf (h : VG g) (h0 : 0 ≤ s) (h1 : s < g.start.length) : 0 ≤ rd g.weight s ∧ rd g.weight s ≤ 1048576 := by
  obtain ⟨i, rfl⟩ := Int.eq_ofNat_of_zero_le h0
  have h2 := h.l2
  have := h.w i (by omega)
  exact this
theorem VG.startOf (h : VG g) (h0 : 0 ≤ s) (h1 : s < g.start.length) : 0 ≤ rd g.start s ∧ rd g.start s < g.edgeOf.length ∧ rd g.edgeOf (rd g.start s) = s := by
  obtain ⟨i, rfl⟩ := Int.eq_ofNat_of_zero_le h0
  exact h.s i (by omega)
theorem VG.arcsOf (h : VG g) {v : Int} (h0 : 0 ≤ v) (h1 : v < g.edgeOf.length) : 0 ≤ rd g.first v ∧ rd g.first v ≤ rd g.first (v + 1) ∧ rd g.first (v + 1) ≤ g.to.length := by
  obtain ⟨i, rfl⟩ := Int.eq_ofNat_of_zero_le h0
  have a := firsts h.f0 h.fv h.f i (by omega)
  have b := firsts h.f0 h.fv h.f (i + 1) (by omega)
  have c := h.f i (by omega)
  push_cast at b
  exact ⟨a.1, c, b.2⟩
theorem VG.arcOf (h : VG g) {v k : Int} (h0 : 0 ≤ v) (h1 : v < g.edgeOf.length) (h2 : rd g.first v ≤ k) (h3 : k < rd g.first (v + 1)) : 0 ≤ rd g.to k ∧ rd g.to k < g.edgeOf.length ∧ 0 ≤ rd g.cost k ∧ rd g.cost k ≤ 3145728 ∧ 0 ≤ k ∧ k < g.to.length := by
  have a := h.arcsOf h0 h1
  obtain ⟨i, rfl⟩ := Int.eq_ofNat_of_zero_le (show 0 ≤ k by omega)
  have b := h.t i (by omega)
  exact ⟨b.1, b.2.1, b.2.2.1, b.2.2.2, by omega, by omega⟩
theorem VG.edgeOf (h : VG g) {v : Int} (h0 : 0 ≤ v) (h1 : v < g.edgeOf.length) : 0 ≤ rd g.edgeOf v ∧ rd g.edgeOf v < g.start.length := by
  obtain ⟨i, rfl⟩ := Int.eq_ofNat_of_zero_le h0
  have := h.v i (by omega)
  exact ⟨this.1, this.2.1⟩
structure WalF (g : Gr) (v : Int) (n : Nat) (c : Int) (e : List Int) : Prop where
  v0 : 0 ≤ v
  v1 : v < g.edgeOf.length
  el : e.length = n + 1
  c0 : 0 ≤ c
  c1 : c ≤ 1048576 + n * 3145728
  la : rd e ((e.length : Int) - 1) = rd g.edgeOf v
theorem rd_snoc (l : List Int) (x : Int) : rd (l ++ [x]) (((l ++ [x]).length : Int) - 1) = x := by
  unfold rd
  simp [show ((l.length : Int) + 1 - 1).toNat = l.length by omega]
theorem Wal.fine (h : VG g) (h0 : 0 ≤ s) (h1 : s < g.start.length) {v : Int} {n : Nat} {c : Int} {e : List Int} (w : Wal g s v n c e) : WalF g v n c e := by
  induction w with
  | base =>
    have a := h.startOf h0 h1
    have b := h.weightOf h0 h1
    exact ⟨a.1, a.2.1, rfl, b.1, by omega, by rw [a.2.2]; rfl⟩
  | step k w hk1 hk2 ih =>
    have a := h.arcOf ih.v0 ih.v1 hk1 hk2
    have b0 := ih.c0
    have b1 := ih.c1
    refine ⟨a.1, a.2.1, by simp [ih.el], by omega, by push_cast; omega, rd_snoc _ _⟩
/-- Cheaper than every shorter walk to the same vertex. -/
def Strict (g : Gr) (s : Int) (v : Int) (n : Nat) (c : Int) : Prop := ∀ m c' e', m < n → Wal g s v m c' e' → c < c'
theorem Strict.before {v : Int} {n : Nat} {c : Int} {k : Int} (hk1 : rd g.first v ≤ k) (hk2 : k < rd g.first (v + 1)) (h : Strict g s (rd g.to k) (n + 1) (c + rd g.cost k)) : Strict g s v n c := by
  intro m c' e' hm w
  have := h (m + 1) _ _ (by omega) (w.step k hk1 hk2)
  omega
theorem Wal.path (h : VG g) (h0 : 0 ≤ s) (h1 : s < g.start.length) {v : Int} {n : Nat} {c : Int} {e : List Int} (w : Wal g s v n c e) :
    Strict g s v n c → ∃ l : List Int, l.length = n + 1 ∧ l.Nodup ∧ ∀ x ∈ l, ∃ m c' e', m ≤ n ∧ c' ≤ c ∧ Wal g s x m c' e' := by
  induction w with
  | base => exact fun _ => ⟨[rd g.start s], rfl, by simp, fun x hx => by simp at hx; subst hx; exact ⟨0, _, _, Nat.le_refl _, Int.le_refl _, .base⟩⟩
  | @step v n c e k w hk1 hk2 ih =>
    intro hs
    obtain ⟨l, l1, l2, l3⟩ := ih (hs.before hk1 hk2)
    have f := w.fine h h0 h1
    have a := h.arcOf f.v0 f.v1 hk1 hk2
    refine ⟨rd g.to k :: l, by simp [l1], List.nodup_cons.2 ⟨fun hm => ?_, l2⟩, fun x hx => ?_⟩
    · obtain ⟨m, c', e', hm, hc, w'⟩ := l3 _ hm
      have := hs m c' e' (by omega) w'
      omega
    · rcases List.mem_cons.1 hx with rfl | hx
      · exact ⟨_, _, _, Nat.le_refl _, Int.le_refl _, w.step k hk1 hk2⟩
      · obtain ⟨m, c', e', hm, hc, w'⟩ := l3 _ hx
        exact ⟨m, c', e', by omega, by omega, w'⟩
theorem Strict.short (h : VG g) (h0 : 0 ≤ s) (h1 : s < g.start.length) {v : Int} {n : Nat} {c : Int} {e : List Int} (w : Wal g s v n c e) (hs : Strict g s v n c) : n < g.edgeOf.length := by
  obtain ⟨l, l1, l2, l3⟩ := w.path h h0 h1 hs
  have := nodup_lt g.edgeOf.length l l2 fun x hx => by
    obtain ⟨m, c', e', _, _, w'⟩ := l3 x hx
    have f := w'.fine h h0 h1
    exact ⟨f.v0, f.v1⟩
  omega
/-- The route that is asked for: none where there is none, else the least. -/
def IsBest (g : Gr) (s t : Int) (b : Rt) : Prop :=
  (∀ c e, b = some (c, e) → ∃ v n, Wal g s v n c e ∧ rd g.edgeOf v = t) ∧ ∀ v n c e, Wal g s v n c e → rd g.edgeOf v = t → ∃ c' e', b = some (c', e') ∧ LeW c' e' c e
theorem IsBest.one {a b : Rt} (ha : IsBest g s t a) (hb : IsBest g s t b) : a = b := by
  rcases a with _ | ⟨c, e⟩
  · rcases b with _ | ⟨c', e'⟩
    · rfl
    · obtain ⟨v, n, w, hv⟩ := hb.1 _ _ rfl
      obtain ⟨_, _, h, _⟩ := ha.2 _ _ _ _ w hv
      cases h
  · obtain ⟨v, n, w, hv⟩ := ha.1 _ _ rfl
    obtain ⟨c', e', rfl, h1⟩ := hb.2 _ _ _ _ w hv
    obtain ⟨v', n', w', hv'⟩ := hb.1 _ _ rfl
    obtain ⟨c2, e2, h2, h3⟩ := ha.2 _ _ _ _ w' hv'
    cases h2
    obtain ⟨rfl, rfl⟩ := h1.anti h3
    rfl
structure RI (g : Gr) (s t : Int) (n : Nat) (f sn : List Wk) (b : Rt) : Prop where
  fr : ∀ w ∈ f, ∃ v, w.k = [v] ∧ Wal g s v n w.c w.e
  fs : ∀ w ∈ f, ∀ v, w.k = [v] → Strict g s v n w.c
  fn : KN f
  sr : ∀ w ∈ sn, ∃ v m, m ≤ n ∧ w.k = [v] ∧ Wal g s v m w.c w.e
  kn : KN sn
  s3 : ∀ v m c e, m ≤ n → Wal g s v m c e → ∃ w ∈ sn, w.k = [v] ∧ w.c ≤ c
  s4 : ∀ v c e, Wal g s v n c e → Strict g s v n c → ∃ w ∈ f, w.k = [v] ∧ LeW w.c w.e c e
  br : ∀ c e, b = some (c, e) → ∃ v m, m ≤ n ∧ Wal g s v m c e ∧ rd g.edgeOf v = t
  b5 : ∀ v m c e, m ≤ n → Wal g s v m c e → rd g.edgeOf v = t → ∃ c' e', b = some (c', e') ∧ LeW c' e' c e
theorem longer {n : Nat} (hn : ∀ v c e, Wal g s v n c e → ¬ Strict g s v n c) {v : Int} {m : Nat} {c : Int} {e : List Int} (w : Wal g s v m c e) : n ≤ m → ∃ m' c' e', m' < n ∧ c' ≤ c ∧ Wal g s v m' c' e' := by
  have key : ∀ {v : Int} {c : Int} {e : List Int}, Wal g s v n c e → ∃ m' c' e', m' < n ∧ c' ≤ c ∧ Wal g s v m' c' e' := by
    intro v c e w
    have := hn v c e w
    unfold Strict at this
    apply Classical.byContradiction
    intro h
    exact this fun m' c' e' hm w' => by
      apply Classical.byContradiction
      intro h2
      exact h ⟨m', c', e', hm, by omega, w'⟩
  induction w with
  | base =>
    intro h
    obtain rfl : n = 0 := by omega
    exact key .base
  | @step v m c e k w hk1 hk2 ih =>
    intro h
    by_cases he : n = m + 1
    · subst he
      exact key (w.step k hk1 hk2)
    · obtain ⟨m', c', e', hm, hc, w'⟩ := ih (by omega)
      by_cases h2 : m' + 1 < n
      · exact ⟨m' + 1, _, _, h2, by omega, w'.step k hk1 hk2⟩
      · obtain rfl : n = m' + 1 := by omega
        obtain ⟨m2, c2, e2, h3, h4, w2⟩ := key (w'.step k hk1 hk2)
        exact ⟨m2, c2, e2, h3, by omega, w2⟩
theorem RI.done (h : VG g) (h0 : 0 ≤ s) (h1 : s < g.start.length) {n : Nat} {sn : List Wk} {b : Rt} (hR : RI g s t n [] sn b) : IsBest g s t b := by
  refine ⟨fun c e he => ?_, fun v m c e w hv => ?_⟩
  · obtain ⟨v, m, _, w, hv⟩ := hR.br c e he
    exact ⟨v, m, w, hv⟩
  · by_cases hm : m ≤ n
    · exact hR.b5 v m c e hm w hv
    · obtain ⟨m', c', e', h2, h3, w'⟩ := longer (fun v c e w hs => by obtain ⟨x, hx, _⟩ := hR.s4 v c e w hs; cases hx) w (by omega)
      obtain ⟨c2, e2, h4, h5⟩ := hR.b5 v m' c' e' (by omega) w' hv
      refine ⟨c2, e2, h4, h5.trans ?_⟩
      by_cases hc : c' = c
      · refine .inr ⟨hc, .inr ?_⟩
        have l1 := (w.fine h h0 h1).el
        have l2 := (w'.fine h h0 h1).el
        unfold Short.before
        rw [if_neg (by omega)]
        simp
        omega
      · exact .inl (by omega)
theorem RI.late (h : VG g) (h0 : 0 ≤ s) (h1 : s < g.start.length) {f sn : List Wk} {b : Rt} (hR : RI g s t g.edgeOf.length f sn b) : f = [] := by
  cases f with
  | nil => rfl
  | cons w l =>
    obtain ⟨v, hk, hw⟩ := hR.fr w (by simp)
    have := Strict.short h h0 h1 hw (hR.fs w (by simp) v hk)
    omega
theorem RI.start (h : VG g) (h0 : 0 ≤ s) (h1 : s < g.start.length) : RI g s t 0 [⟨[s], rd g.weight s, [rd g.start s]⟩] (seeW [] [⟨[s], rd g.weight s, [rd g.start s]⟩]) (bestW none [⟨[s], rd g.weight s, [rd g.start s]⟩] t) := by
  have e1 : seeW [] [⟨[s], rd g.weight s, [rd g.start s]⟩] = [(⟨[s], rd g.weight s, [rd g.start s]⟩ : Wk)] := by simp [seeW, seeStep, fI, findW]
  rw [e1]
  have inv : ∀ v c e, Wal g s v 0 c e → v = rd g.start s ∧ c = rd g.weight s ∧ e = [s] := by
    intro v c e w
    cases w
    exact ⟨rfl, rfl, rfl⟩
  have st := h.startOf h0 h1
  obtain ⟨b1, b2, b3⟩ := best_law (t := t) (ws := [⟨[s], rd g.weight s, [rd g.start s]⟩]) (old := none)
  refine ⟨?_, ?_, by simp [KN], ?_, by simp [KN], ?_, ?_, ?_, ?_⟩
  · intro w hw
    simp at hw
    subst hw
    exact ⟨_, rfl, .base⟩
  · intro w hw v hv m c' e' hm
    omega
  · intro w hw
    simp at hw
    subst hw
    exact ⟨_, 0, Nat.le_refl _, rfl, .base⟩
  · intro v m c e hm w
    obtain rfl : m = 0 := by omega
    obtain ⟨rfl, rfl, rfl⟩ := inv _ _ _ w
    exact ⟨_, List.mem_cons_self .., rfl, Int.le_refl _⟩
  · intro v c e w _
    obtain ⟨rfl, rfl, rfl⟩ := inv _ _ _ w
    exact ⟨_, List.mem_cons_self .., rfl, LeW.refl _ _⟩
  · intro c e he
    rcases b3 _ he with h | ⟨x, hx, h2, h3⟩
    · cases h
    · simp at hx
      subst hx
      cases h3
      refine ⟨_, 0, Nat.le_refl _, .base, ?_⟩
      rw [st.2.2]
      exact h2
  · intro v m c e hm w hv
    obtain rfl : m = 0 := by omega
    obtain ⟨rfl, rfl, rfl⟩ := inv _ _ _ w
    exact b2 _ (List.mem_cons_self ..) (by rw [← hv, st.2.2]; rfl)
/-- An arc is looked at. -/
def CovA (g : Gr) (sn next : List Wk) (w : Wk) (k : Int) : Prop := (∀ x ∈ sn, x.k = [rd g.to k] → w.c + rd g.cost k < x.c) → ∃ y ∈ next, y.k = [rd g.to k] ∧ LeW y.c y.e (w.c + rd g.cost k) (w.e ++ [rd g.edgeOf (rd g.to k)])
theorem CovA.mono {sn a b : List Wk} {w : Wk} {k : Int} (h : CovA g sn a w k) (hc : Cov a b) : CovA g sn b w k := by
  intro hx
  obtain ⟨y, hy, h1, h2⟩ := h hx
  obtain ⟨x, hx, h3, h4⟩ := hc y hy
  exact ⟨x, hx, h3.trans h1, h4.trans h2⟩
structure NF (g : Gr) (s : Int) (n : Nat) (f sn : List Wk) (i : Nat) (next : List Wk) : Prop where
  nr : ∀ w ∈ next, ∃ v, w.k = [v] ∧ Wal g s v (n + 1) w.c w.e
  nn : KN next
  old : ∀ j < i, ∀ v, (nth f (j : Nat)).k = [v] → ∀ k, rd g.first v ≤ k → k < rd g.first (v + 1) → CovA g sn next (nth f (j : Nat)) k
structure NI (g : Gr) (s : Int) (n : Nat) (f sn : List Wk) (i : Nat) (v k0 : Int) (next : List Wk) : Prop extends NF g s n f sn i next where
  now : ∀ k, rd g.first v ≤ k → k < k0 → CovA g sn next (nth f i) k
theorem NF.start (n : Nat) (f sn : List Wk) : NF g s n f sn 0 [] := ⟨by simp, by simp [KN], fun j hj => by omega⟩
theorem NF.enter {n i : Nat} {f sn next : List Wk} {v : Int} (h : NF g s n f sn i next) : NI g s n f sn i v (rd g.first v) next := ⟨h, fun k h1 h2 => by omega⟩
theorem NI.exit {n i : Nat} {f sn next : List Wk} {v : Int} (hv : (nth f i).k = [v]) (h : NI g s n f sn i v (rd g.first (v + 1)) next) : NF g s n f sn (i + 1) next := by
  refine ⟨h.nr, h.nn, fun j hj u hu k h1 h2 => ?_⟩
  by_cases e : j = i
  · subst e
    rw [hv] at hu
    cases hu
    exact h.now k h1 h2
  · exact h.old j (by omega) u hu k h1 h2
theorem NI.skip {n i : Nat} {f sn next : List Wk} {v k : Int} (h : NI g s n f sn i v k next) {x : Wk} (hx : x ∈ sn) (hk : x.k = [rd g.to k]) (hc : ¬ (nth f i).c + rd g.cost k < x.c) : NI g s n f sn i v (k + 1) next := by
  refine ⟨h.toNF, fun k' h1 h2 => ?_⟩
  by_cases e : k' = k
  · subst e
    exact fun hh => absurd (hh x hx hk) hc
  · exact h.now k' h1 (by omega)
theorem NI.keep {n i : Nat} {f sn next : List Wk} {v k : Int} (h : NI g s n f sn i v k next) (hw : Wal g s v n (nth f i).c (nth f i).e) (hk1 : rd g.first v ≤ k) (hk2 : k < rd g.first (v + 1)) : NI g s n f sn i v (k + 1) (keepW next ⟨(nth f i).e ++ [rd g.edgeOf (rd g.to k)], (nth f i).c + rd g.cost k, [rd g.to k]⟩) := by
  obtain ⟨a1, a2, a3, a4⟩ := keep_law (w := ⟨(nth f i).e ++ [rd g.edgeOf (rd g.to k)], (nth f i).c + rd g.cost k, [rd g.to k]⟩) h.nn
  refine ⟨⟨fun w hw' => ?_, a1, fun j hj u hu k' h1 h2 => (h.old j hj u hu k' h1 h2).mono a2⟩, fun k' h1 h2 => ?_⟩
  · rcases a4 w hw' with h' | rfl
    · exact h.nr w h'
    · exact ⟨_, rfl, hw.step k hk1 hk2⟩
  · by_cases e : k' = k
    · subst e
      exact fun _ => a3
    · exact (h.now k' h1 (by omega)).mono a2
theorem NF.round (h : VG g) (h0 : 0 ≤ s) (h1 : s < g.start.length) {n : Nat} {f sn next : List Wk} {b : Rt} (hR : RI g s t n f sn b) (hN : NF g s n f sn f.length next) :
    RI g s t (n + 1) (freshW next sn) (seeW sn (freshW next sn)) (bestW b (freshW next sn) t) := by
  have fr : ∀ w ∈ freshW next sn, ∃ v, w.k = [v] ∧ Wal g s v (n + 1) w.c w.e := fun w hw => hN.nr w (List.mem_filter.1 hw).1
  have ff : ∀ w ∈ freshW next sn, ∀ x ∈ sn, x.k = w.k → w.c < x.c := fun w hw => (isFresh_iff hR.kn).1 (List.mem_filter.1 hw).2
  have fn : KN (freshW next sn) := hN.nn.sublist (List.Sublist.map _ List.filter_sublist)
  have fs : ∀ w ∈ freshW next sn, ∀ v, w.k = [v] → Strict g s v (n + 1) w.c := by
    intro w hw v hv m c' e' hm w'
    obtain ⟨x, hx, h2, h3⟩ := hR.s3 v m c' e' (by omega) w'
    have := ff w hw x hx (by rw [h2, hv])
    omega
  have s4 : ∀ v c e, Wal g s v (n + 1) c e → Strict g s v (n + 1) c → ∃ w ∈ freshW next sn, w.k = [v] ∧ LeW w.c w.e c e := by
    intro v c e w hs
    cases w with
    | @step u _ c e k w hk1 hk2 =>
      obtain ⟨y, hy, h2, h3⟩ := hR.s4 u c e w (hs.before hk1 hk2)
      obtain ⟨j, hj, rfl⟩ := mem_nth.1 hy
      have lt : (nth f j).c ≤ c := by
        rcases h3 with h3 | h3 <;> omega
      have off : ∀ x ∈ sn, x.k = [rd g.to k] → c + rd g.cost k < x.c := by
        intro x hx hk
        obtain ⟨v', m, hm, h4, w'⟩ := hR.sr x hx
        rw [h4] at hk
        cases hk
        exact hs m _ _ (by omega) w'
      obtain ⟨z, hz, h4, h5⟩ := hN.old j hj u h2 k hk1 hk2 fun x hx hk => by have := off x hx hk; omega
      refine ⟨z, List.mem_filter.2 ⟨hz, (isFresh_iff hR.kn).2 fun x hx hk => ?_⟩, h4, h5.trans h3.step⟩
      have := off x hx (hk.trans h4)
      rcases h5 with h5 | h5 <;> omega
  obtain ⟨k1, k2, k3⟩ := see_law hR.kn fn ff
  obtain ⟨b1, b2, b3⟩ := best_law (t := t) (ws := freshW next sn) (old := b)
  refine ⟨fr, fs, fn, fun w hw => ?_, k1, fun v m c e hm w => ?_, s4, fun c e he => ?_, fun v m c e hm w hv => ?_⟩
  · rcases mem_seeW hw with h | h
    · obtain ⟨v, m, hm, h2, h3⟩ := hR.sr w h
      exact ⟨v, m, by omega, h2, h3⟩
    · obtain ⟨v, h2, h3⟩ := fr w h
      exact ⟨v, n + 1, Nat.le_refl _, h2, h3⟩
  · have low : ∀ m c e, m ≤ n → Wal g s v m c e → ∃ w ∈ seeW sn (freshW next sn), w.k = [v] ∧ w.c ≤ c := by
      intro m c e hm w
      obtain ⟨x, hx, h2, h3⟩ := hR.s3 v m c e hm w
      obtain ⟨z, hz, h4, h5⟩ := k3 x hx
      exact ⟨z, hz, h4.trans h2, Int.le_trans h5 h3⟩
    by_cases hm2 : m ≤ n
    · exact low m c e hm2 w
    · obtain rfl : m = n + 1 := by omega
      by_cases hs : Strict g s v (n + 1) c
      · obtain ⟨x, hx, h2, h3⟩ := s4 v c e w hs
        obtain ⟨z, hz, h4, h5⟩ := k2 x hx
        refine ⟨z, hz, h4.trans h2, ?_⟩
        rcases h3 with h3 | h3 <;> omega
      · obtain ⟨m', c', e', hm', hc', w'⟩ : ∃ m' c' e', m' < n + 1 ∧ c' ≤ c ∧ Wal g s v m' c' e' := by
          apply Classical.byContradiction
          intro hno
          exact hs fun m' c' e' h2 w' => by
            apply Classical.byContradiction
            intro h3
            exact hno ⟨m', c', e', h2, by omega, w'⟩
        obtain ⟨x, hx, h2, h3⟩ := low m' c' e' (by omega) w'
        exact ⟨x, hx, h2, Int.le_trans h3 hc'⟩
  · rcases b3 _ he with h | ⟨x, hx, h2, h3⟩
    · obtain ⟨v, m, hm, h4⟩ := hR.br c e h
      exact ⟨v, m, by omega, h4⟩
    · obtain ⟨v, h4, h5⟩ := fr x hx
      cases h3
      exact ⟨v, n + 1, Nat.le_refl _, h5, by rw [← (h5.fine h h0 h1).la, h2]⟩
  · have low : ∀ m c e, m ≤ n → Wal g s v m c e → ∃ c' e', bestW b (freshW next sn) t = some (c', e') ∧ LeW c' e' c e := by
      intro m c e hm w
      obtain ⟨c1, e1, h2, h3⟩ := hR.b5 v m c e hm w hv
      obtain ⟨c2, e2, h4, h5⟩ := b1 c1 e1 h2
      exact ⟨c2, e2, h4, h5.trans h3⟩
    by_cases hm2 : m ≤ n
    · exact low m c e hm2 w
    · obtain rfl : m = n + 1 := by omega
      by_cases hs : Strict g s v (n + 1) c
      · obtain ⟨x, hx, h2, h3⟩ := s4 v c e w hs
        obtain ⟨v', h4, h5⟩ := fr x hx
        rw [h2] at h4
        cases h4
        obtain ⟨c2, e2, h6, h7⟩ := b2 x hx (by rw [(h5.fine h h0 h1).la, hv])
        exact ⟨c2, e2, h6, h7.trans h3⟩
      · obtain ⟨m', c', e', hm', hc', w'⟩ : ∃ m' c' e', m' < n + 1 ∧ c' ≤ c ∧ Wal g s v m' c' e' := by
          apply Classical.byContradiction
          intro hno
          exact hs fun m' c' e' h2 w' => by
            apply Classical.byContradiction
            intro h3
            exact hno ⟨m', c', e', h2, by omega, w'⟩
        obtain ⟨c2, e2, h2, h3⟩ := low m' c' e' (by omega) w'
        refine ⟨c2, e2, h2, h3.trans ?_⟩
        by_cases hc : c' = c
        · refine .inr ⟨hc, .inr ?_⟩
          have l1 := (w.fine h h0 h1).el
          have l2 := (w'.fine h h0 h1).el
          unfold Short.before
          rw [if_neg (by omega)]
          simp
          omega
        · exact .inl (by omega)
end Cal

/- The plain law of the search by cost and number of edges. -/
set_option linter.unusedSimpArgs false
set_option linter.unusedVariables false
namespace Cal
open Go Go.Proofs
variable {g : Gr} {s : Int}
theorem rdb_set {l : List Bool} {i k : Int} {x : Bool} (h0 : 0 ≤ i) (h1 : i < l.length) (hk : 0 ≤ k) : rdb (l.set i.toNat x) k = if k = i then x else rdb l k := by
  obtain ⟨a, rfl⟩ := Int.eq_ofNat_of_zero_le h0
  obtain ⟨b, rfl⟩ := Int.eq_ofNat_of_zero_le hk
  rw [Int.toNat_natCast]
  by_cases h : b = a
  · subst h
    rw [if_pos rfl]
    exact rdb_set_eq (by omega)
  · rw [if_neg (by omega)]
    exact rdb_set_ne h
theorem nth_setI {l : List Rc} {i k : Int} {x : Rc} (h0 : 0 ≤ i) (h1 : i < l.length) (hk : 0 ≤ k) : nth (l.set i.toNat x) k = if k = i then x else nth l k := by
  obtain ⟨a, rfl⟩ := Int.eq_ofNat_of_zero_le h0
  obtain ⟨b, rfl⟩ := Int.eq_ofNat_of_zero_le hk
  rw [Int.toNat_natCast, nth_set (by omega)]
  by_cases h : b = a
  · rw [if_pos h, if_pos (by omega)]
  · rw [if_neg h, if_neg (by omega)]
def W0 (g : Gr) (s : Int) : Rc := ⟨rd g.weight s, 1, rd g.start s⟩
def arcR (g : Gr) (x : Rc) (k : Int) : Rc := ⟨x.a + rd g.cost k, x.b + 1, rd g.to k⟩
/-- A record of a walk. -/
def RcW (g : Gr) (s : Int) (x : Rc) : Prop := ∃ n e, Wal g s x.v n x.a e ∧ x.b = n + 1
def inV (g : Gr) (v : Int) : Prop := 0 ≤ v ∧ v < g.edgeOf.length
structure DJ (g : Gr) (s : Int) (best : List Rc) (has don : List Bool) (order : List Int) (P : Rc → Prop) (A : Int → Int → Prop) : Prop where
  lb : best.length = g.edgeOf.length
  lh : has.length = g.edgeOf.length
  ld : don.length = g.edgeOf.length
  real : ∀ v, inV g v → rdb has v = true → (nth best v).v = v ∧ RcW g s (nth best v) ∧ (nth best v).b ≤ order.length + 1
  pile : ∀ y, P y → inV g y.v ∧ rdb has y.v = true ∧ Le (nth best y.v) y ∧ RcW g s y ∧ y.b ≤ order.length + 1
  wait : ∀ v, inV g v → rdb has v = true → rdb don v = false → P (nth best v)
  dn : ∀ v, inV g v → rdb don v = true → rdb has v = true ∧ ∀ y, P y → Le (nth best v) y
  ord : ∀ v, v ∈ order ↔ inV g v ∧ rdb don v = true
  nd : order.Nodup
  srt : order.Pairwise fun a b => Le (nth best a) (nth best b)
  sr : inV g (rd g.start s)
  st : rdb has (rd g.start s) = true ∧ Le (nth best (rd g.start s)) (W0 g s)
  arcs : ∀ v k, inV g v → rdb don v = true → rd g.first v ≤ k → k < rd g.first (v + 1) → A v k → rdb has (rd g.to k) = true ∧ Le (nth best (rd g.to k)) (arcR g (nth best v) k)
/-- While the arcs of x are gone through: up to k. -/
structure DX (g : Gr) (s : Int) (best : List Rc) (has don : List Bool) (order : List Int) (P : Rc → Prop) (x : Rc) (k : Int) : Prop extends DJ g s best has don order P (fun v k' => v = x.v → k' < k) where
  xr : inV g x.v
  xd : rdb don x.v = true
  xb : nth best x.v = x
  xa : ∀ u, inV g u → rdb don u = true → Le (nth best u) x
  xp : ∀ y, P y → Le x y
  xc : x.b ≤ order.length
theorem DJ.start (h : VG g) (h0 : 0 ≤ s) (h1 : s < g.start.length) : DJ g s ((List.replicate g.edgeOf.length (⟨0, 0, 0⟩ : Rc)).set (rd g.start s).toNat (W0 g s)) ((List.replicate g.edgeOf.length false).set (rd g.start s).toNat true) (List.replicate g.edgeOf.length false) [] (fun y => y = W0 g s) (fun _ _ => True) := by
  have st := h.startOf h0 h1
  have e1 : ∀ v, inV g v → nth ((List.replicate g.edgeOf.length (⟨0, 0, 0⟩ : Rc)).set (rd g.start s).toNat (W0 g s)) v = if v = rd g.start s then W0 g s else nth (List.replicate g.edgeOf.length (⟨0, 0, 0⟩ : Rc)) v := fun v hv => nth_setI st.1 (by simpa using st.2.1) hv.1
  have e3 : ∀ v, rdb (List.replicate g.edgeOf.length false) v = false := fun v => by
    unfold rdb
    rw [List.getD_eq_getElem?_getD, List.getElem?_replicate]
    split <;> rfl
  have e2 : ∀ v, inV g v → rdb ((List.replicate g.edgeOf.length false).set (rd g.start s).toNat true) v = if v = rd g.start s then true else false := fun v hv => by
    rw [rdb_set st.1 (by simpa using st.2.1) hv.1, e3]
  have rs : RcW g s (W0 g s) := ⟨0, _, .base, rfl⟩
  have is : inV g (rd g.start s) := ⟨st.1, st.2.1⟩
  refine ⟨by simp, by simp, by simp, ?_, ?_, ?_, ?_, ?_, by simp, by simp, is, ?_, ?_⟩
  · intro v hv hh
    rw [e2 v hv] at hh
    by_cases e : v = rd g.start s
    · subst e
      rw [e1 _ hv, if_pos rfl]
      exact ⟨rfl, rs, by simp [W0]⟩
    · rw [if_neg e] at hh
      cases hh
  · rintro y rfl
    refine ⟨is, ?_, ?_, rs, by simp [W0]⟩
    · show rdb _ (rd g.start s) = true
      rw [e2 _ is, if_pos rfl]
    · show Le (nth _ (rd g.start s)) _
      rw [e1 _ is, if_pos rfl]
      exact Le.refl _
  · intro v hv hh _
    rw [e2 v hv] at hh
    by_cases e : v = rd g.start s
    · subst e
      rw [e1 _ hv, if_pos rfl]
    · rw [if_neg e] at hh
      cases hh
  · intro v hv hd
    rw [e3] at hd
    cases hd
  · intro v
    rw [e3]
    simp
  · rw [e2 _ is, e1 _ is, if_pos rfl, if_pos rfl]
    exact ⟨rfl, Le.refl _⟩
  · intro v k hv hd
    rw [e3] at hd
    cases hd
/-- A record of a vertex that is done is thrown away. -/
theorem DJ.drop {best : List Rc} {has don : List Bool} {order : List Int} {P P' : Rc → Prop} {A : Int → Int → Prop} (h : DJ g s best has don order P A) {x : Rc} (hx : P x) (hd : rdb don x.v = true) (h1 : ∀ y, P' y → P y) (h2 : ∀ y, P y → y = x ∨ P' y) : DJ g s best has don order P' A := by
  refine ⟨h.lb, h.lh, h.ld, h.real, fun y hy => h.pile y (h1 y hy), fun v hv hh hn => ?_, fun v hv hd => ⟨(h.dn v hv hd).1, fun y hy => (h.dn v hv hd).2 y (h1 y hy)⟩, h.ord, h.nd, h.srt, h.sr, h.st, h.arcs⟩
  rcases h2 _ (h.wait v hv hh hn) with e | e
  · have := (h.real v hv hh).1
    rw [e] at this
    rw [this, hn] at hd
    cases hd
  · exact e
/-- A record of a vertex that is not done is taken out. -/
theorem DJ.take {best : List Rc} {has don : List Bool} {order : List Int} {P P' : Rc → Prop} (h : DJ g s best has don order P fun _ _ => True) {x : Rc} (hx : P x) (hl : ∀ y, P y → Le x y) (hd : rdb don x.v = false) (h1 : ∀ y, P' y → P y) (h2 : ∀ y, P y → y = x ∨ P' y) : DX g s best has (don.set x.v.toNat true) (order ++ [x.v]) P' x (rd g.first x.v) := by
  obtain ⟨xr, xh, xl, xw, xc⟩ := h.pile x hx
  have pb := h.wait x.v xr xh hd
  have hb : nth best x.v = x := by
    have e1 := (h.real x.v xr xh).1
    have e2 := hl _ pb
    generalize nth best x.v = y at *
    cases x
    cases y
    unfold Le at *
    dsimp only at *
    congr 1 <;> omega
  have hdn : ∀ v, inV g v → rdb (don.set x.v.toNat true) v = if v = x.v then true else rdb don v := fun v hv => rdb_set xr.1 (by rw [h.ld]; exact xr.2) hv.1
  have all : ∀ u, inV g u → rdb (don.set x.v.toNat true) u = true → Le (nth best u) x := by
    intro u hu hd'
    rw [hdn u hu] at hd'
    by_cases e : u = x.v
    · subst e
      rw [hb]
      exact Le.refl _
    · rw [if_neg e] at hd'
      exact (h.dn u hu hd').2 x hx
  refine ⟨⟨h.lb, h.lh, by rw [List.length_set]; exact h.ld, fun v hv hh => ?_, fun y hy => ?_, fun v hv hh hn => ?_, fun v hv hd' => ⟨?_, fun y hy => (all v hv hd').trans (hl y (h1 y hy))⟩, fun v => ?_, ?_, ?_, h.sr, h.st, fun v k hv hd' k1 k2 ka => ?_⟩, xr, ?_, hb, all, fun y hy => hl y (h1 y hy), by rw [List.length_append]; simpa using xc⟩
  · obtain ⟨a, b, c⟩ := h.real v hv hh
    exact ⟨a, b, by rw [List.length_append]; simp; omega⟩
  · obtain ⟨a, b, c, d, e⟩ := h.pile y (h1 y hy)
    exact ⟨a, b, c, d, by rw [List.length_append]; simp; omega⟩
  · rw [hdn v hv] at hn
    by_cases e : v = x.v
    · rw [if_pos e] at hn
      cases hn
    · rw [if_neg e] at hn
      rcases h2 _ (h.wait v hv hh hn) with e' | e'
      · have := (h.real v hv hh).1
        rw [e'] at this
        exact absurd this.symm e
      · exact e'
  · rw [hdn v hv] at hd'
    by_cases e : v = x.v
    · rw [e]
      exact xh
    · rw [if_neg e] at hd'
      exact (h.dn v hv hd').1
  · rw [List.mem_append, h.ord]
    constructor
    · rintro (⟨a, b⟩ | e)
      · refine ⟨a, ?_⟩
        rw [hdn v a, b]
        simp
      · simp at e
        subst e
        exact ⟨xr, by rw [hdn _ xr, if_pos rfl]⟩
    · rintro ⟨a, b⟩
      rw [hdn v a] at b
      by_cases e : v = x.v
      · right; simp [e]
      · rw [if_neg e] at b
        exact .inl ⟨a, b⟩
  · rw [List.nodup_append]
    refine ⟨h.nd, by simp, fun a ha b hb e => ?_⟩
    simp at hb
    subst hb
    subst e
    rw [((h.ord _).1 ha).2] at hd
    cases hd
  · rw [List.pairwise_append]
    refine ⟨h.srt, by simp, fun a ha b hb' => ?_⟩
    simp at hb'
    subst hb'
    rw [hb]
    obtain ⟨a1, a2⟩ := (h.ord a).1 ha
    exact (h.dn a a1 a2).2 x hx
  · rw [hdn v hv] at hd'
    by_cases e : v = x.v
    · have := ka e
      rw [e] at k1
      omega
    · rw [if_neg e] at hd'
      exact h.arcs v k hv hd' k1 k2 trivial
  · rw [hdn _ xr, if_pos rfl]
theorem arcR_lt (h : VG g) {x : Rc} {k : Int} (hx : inV g x.v) (k1 : rd g.first x.v ≤ k) (k2 : k < rd g.first (x.v + 1)) : Lt x (arcR g x k) := by
  have := h.arcOf hx.1 hx.2 k1 k2
  unfold Lt arcR
  dsimp only
  omega
/-- An arc that helps nothing. -/
theorem DX.skip {best : List Rc} {has don : List Bool} {order : List Int} {P : Rc → Prop} {x : Rc} {k : Int} (h : DX g s best has don order P x k) (hh : rdb has (rd g.to k) = true) (hl : ¬ Lt (arcR g x k) (nth best (rd g.to k))) : DX g s best has don order P x (k + 1) := by
  refine ⟨⟨h.lb, h.lh, h.ld, h.real, h.pile, h.wait, h.dn, h.ord, h.nd, h.srt, h.sr, h.st, fun v k' hv hd k1 k2 ka => ?_⟩, h.xr, h.xd, h.xb, h.xa, h.xp, h.xc⟩
  by_cases e : v = x.v ∧ k' = k
  · obtain ⟨rfl, rfl⟩ := e
    rw [h.xb]
    exact ⟨hh, not_Lt.1 hl⟩
  · refine h.arcs v k' hv hd k1 k2 fun e' => ?_
    have := ka e'
    omega
/-- An arc that helps. -/
theorem DX.put (hg : VG g) {best : List Rc} {has don : List Bool} {order : List Int} {P P' : Rc → Prop} {x : Rc} {k : Int} (h : DX g s best has don order P x k) (k1 : rd g.first x.v ≤ k) (k2 : k < rd g.first (x.v + 1)) (hl : rdb has (rd g.to k) = false ∨ Lt (arcR g x k) (nth best (rd g.to k))) (hP : ∀ y, P' y ↔ P y ∨ y = arcR g x k) :
    DX g s (best.set (rd g.to k).toNat (arcR g x k)) (has.set (rd g.to k).toNat true) don order P' x (k + 1) := by
  have ac := hg.arcOf h.xr.1 h.xr.2 k1 k2
  have yr : inV g (rd g.to k) := ⟨ac.1, ac.2.1⟩
  have lt := arcR_lt hg h.xr k1 k2
  have hb : ∀ v, inV g v → nth (best.set (rd g.to k).toNat (arcR g x k)) v = if v = rd g.to k then arcR g x k else nth best v := fun v hv => nth_setI yr.1 (by rw [h.lb]; exact yr.2) hv.1
  have hh : ∀ v, inV g v → rdb (has.set (rd g.to k).toNat true) v = if v = rd g.to k then true else rdb has v := fun v hv => rdb_set yr.1 (by rw [h.lh]; exact yr.2) hv.1
  have hm : ∀ v, inV g v → rdb has v = true → rdb (has.set (rd g.to k).toNat true) v = true := fun v hv hx => by
    rw [hh v hv, hx]
    simp
  have nd : ∀ u, inV g u → rdb don u = true → u ≠ rd g.to k := by
    intro u hu hd e
    subst e
    have a := (h.dn _ hu hd).1
    have b := h.xa _ hu hd
    rcases hl with hl | hl
    · rw [a] at hl
      cases hl
    · exact (b.trans lt.le).not hl
  have bd : ∀ u, inV g u → rdb don u = true → nth (best.set (rd g.to k).toNat (arcR g x k)) u = nth best u := fun u hu hd => by rw [hb u hu, if_neg (nd u hu hd)]
  have low : ∀ v, inV g v → rdb has v = true → Le (nth (best.set (rd g.to k).toNat (arcR g x k)) v) (nth best v) := by
    intro v hv hx
    rw [hb v hv]
    by_cases e : v = rd g.to k
    · subst e
      rw [if_pos rfl]
      rcases hl with hl | hl
      · rw [hx] at hl
        cases hl
      · exact hl.le
    · rw [if_neg e]
      exact Le.refl _
  obtain ⟨xv, ⟨n, e, xw, xn⟩, xc⟩ := h.real x.v h.xr (h.dn _ h.xr h.xd).1
  rw [h.xb] at xw xn xc
  have yw : RcW g s (arcR g x k) := ⟨n + 1, _, xw.step k k1 k2, by simp only [arcR]; push_cast; omega⟩
  have oc : (arcR g x k).b ≤ order.length + 1 := by
    have := h.xc
    simp only [arcR]
    omega
  refine ⟨⟨by rw [List.length_set]; exact h.lb, by rw [List.length_set]; exact h.lh, h.ld, fun v hv hx => ?_, fun y hy => ?_, fun v hv hx hn => ?_, fun v hv hd => ⟨hm v hv (h.dn v hv hd).1, fun y hy => ?_⟩, h.ord, h.nd, ?_, h.sr, ⟨hm _ h.sr h.st.1, (low _ h.sr h.st.1).trans h.st.2⟩, fun v k' hv hd l1 l2 la => ?_⟩, h.xr, h.xd, ?_, fun u hu hd => ?_, fun y hy => ?_, h.xc⟩
  · rw [hb v hv]
    by_cases e : v = rd g.to k
    · subst e
      rw [if_pos rfl]
      exact ⟨rfl, yw, oc⟩
    · rw [if_neg e]
      rw [hh v hv, if_neg e] at hx
      exact h.real v hv hx
  · rcases (hP y).1 hy with hy | rfl
    · obtain ⟨a, b, c, d, e⟩ := h.pile y hy
      exact ⟨a, hm _ a b, (low _ a b).trans c, d, e⟩
    · refine ⟨yr, ?_, ?_, yw, oc⟩
      · show rdb _ (rd g.to k) = true
        rw [hh _ yr, if_pos rfl]
      · show Le (nth _ (rd g.to k)) _
        rw [hb _ yr, if_pos rfl]
        exact Le.refl _
  · rw [hb v hv]
    by_cases e : v = rd g.to k
    · rw [if_pos e]
      exact (hP _).2 (.inr rfl)
    · rw [if_neg e]
      rw [hh v hv, if_neg e] at hx
      exact (hP _).2 (.inl (h.wait v hv hx hn))
  · rw [bd v hv hd]
    rcases (hP y).1 hy with hy | rfl
    · exact (h.dn v hv hd).2 y hy
    · exact (h.xa v hv hd).trans lt.le
  · refine h.srt.imp_of_mem fun {a b} ha hb' hab => ?_
    obtain ⟨a1, a2⟩ := (h.ord a).1 ha
    obtain ⟨b1, b2⟩ := (h.ord b).1 hb'
    rw [bd a a1 a2, bd b b1 b2]
    exact hab
  · rw [bd v hv hd]
    by_cases e : v = x.v ∧ k' = k
    · obtain ⟨rfl, rfl⟩ := e
      rw [hh _ yr, hb _ yr, if_pos rfl, if_pos rfl, h.xb]
      exact ⟨rfl, Le.refl _⟩
    · have a := h.arcs v k' hv hd l1 l2 fun e' => by
        have := la e'
        omega
      have ac' := hg.arcOf hv.1 hv.2 l1 l2
      exact ⟨hm _ ⟨ac'.1, ac'.2.1⟩ a.1, (low _ ⟨ac'.1, ac'.2.1⟩ a.1).trans a.2⟩
  · rw [bd _ h.xr h.xd]
    exact h.xb
  · rw [bd u hu hd]
    exact h.xa u hu hd
  · rcases (hP y).1 hy with hy | rfl
    · exact h.xp y hy
    · exact lt.le
/-- The arcs are gone through. -/
theorem DX.close {best : List Rc} {has don : List Bool} {order : List Int} {P : Rc → Prop} {x : Rc} (h : DX g s best has don order P x (rd g.first (x.v + 1))) : DJ g s best has don order P fun _ _ => True := by
  refine ⟨h.lb, h.lh, h.ld, h.real, h.pile, h.wait, h.dn, h.ord, h.nd, h.srt, h.sr, h.st, fun v k hv hd k1 k2 _ => h.arcs v k hv hd k1 k2 fun e => ?_⟩
  rw [e] at k2
  exact k2
end Cal

/- The plain law of the search, second part: the measure, the goal, the way back. -/
set_option linter.unusedSimpArgs false
set_option linter.unusedVariables false
namespace Cal
open Go Go.Proofs
variable {g : Gr} {s t : Int}
/-- The arcs of vertices that are not done. -/
def rest (g : Gr) (don : List Bool) : Nat → Int
  | 0 => 0
  | n + 1 => rest g don n + if rdb don n = true then 0 else rd g.first ((n : Int) + 1) - rd g.first n
theorem rest_set (don : List Bool) {v : Nat} (h1 : v < don.length) (h2 : rdb don v = false) : ∀ n : Nat, rest g (don.set v true) n = rest g don n - if v < n then rd g.first ((v : Int) + 1) - rd g.first v else 0
  | 0 => by simp [rest]
  | n + 1 => by
    have ih := rest_set don h1 h2 n
    have e : rdb (don.set v true) n = if n = v then true else rdb don n := by
      by_cases e : n = v
      · subst e; rw [if_pos rfl]; exact rdb_set_eq h1
      · rw [if_neg e]; exact rdb_set_ne e
    unfold rest
    rw [ih, e]
    by_cases h3 : n = v
    · subst h3
      rw [h2]
      simp
    · rw [if_neg h3]
      by_cases h4 : v < n
      · rw [if_pos h4, if_pos (show v < n + 1 by omega)]
        omega
      · rw [if_neg h4, if_neg (show ¬ v < n + 1 by omega)]
        omega
theorem rest_all (h : VG g) : ∀ n : Nat, n ≤ g.edgeOf.length → rest g (List.replicate g.edgeOf.length false) n = rd g.first n
  | 0, _ => h.f0.symm
  | n + 1, hn => by
    have ih := rest_all h n (by omega)
    have e : rdb (List.replicate g.edgeOf.length false) n = false := by
      unfold rdb
      rw [List.getD_eq_getElem?_getD, List.getElem?_replicate]
      split <;> rfl
    unfold rest
    rw [ih, e]
    push_cast
    first | omega | (simp; omega)
theorem rest_nn (h : VG g) (don : List Bool) : ∀ n : Nat, n ≤ g.edgeOf.length → 0 ≤ rest g don n
  | 0, _ => Int.le_refl _
  | n + 1, hn => by
    have ih := rest_nn h don n (by omega)
    have := h.f n (by omega)
    unfold rest
    split <;> omega
/-- What the search leaves. -/
structure FD (g : Gr) (s : Int) (best : List Rc) (has : List Bool) (order : List Int) : Prop where
  lb : best.length = g.edgeOf.length
  lh : has.length = g.edgeOf.length
  real : ∀ v, inV g v → rdb has v = true → (nth best v).v = v ∧ RcW g s (nth best v)
  bn : ∀ v, inV g v → rdb has v = true → (nth best v).b ≤ g.edgeOf.length + 1
  all : ∀ {v : Int} {n : Nat} {c : Int} {e : List Int}, Wal g s v n c e → rdb has v = true ∧ Le (nth best v) ⟨c, n + 1, v⟩
  ord : ∀ v, v ∈ order ↔ inV g v ∧ rdb has v = true
  nd : order.Nodup
  srt : order.Pairwise fun a b => Le (nth best a) (nth best b)
theorem DJ.len {best : List Rc} {has don : List Bool} {order : List Int} {P : Rc → Prop} {A : Int → Int → Prop} (h : DJ g s best has don order P A) : order.length ≤ g.edgeOf.length :=
  nodup_lt _ _ h.nd fun x hx => ((h.ord x).1 hx).1
theorem RcW.bound (h : VG g) (h0 : 0 ≤ s) (h1 : s < g.start.length) {x : Rc} (hx : RcW g s x) (hb : x.b ≤ 6001) : 0 ≤ x.a ∧ x.a ≤ 100000000000 ∧ 1 ≤ x.b := by
  obtain ⟨n, e, w, hn⟩ := hx
  have f := w.fine h h0 h1
  have a := f.c0
  have b := f.c1
  omega
theorem DJ.final (h : VG g) (h0 : 0 ≤ s) (h1 : s < g.start.length) {best : List Rc} {has don : List Bool} {order : List Int} (hd : DJ g s best has don order (fun _ => False) fun _ _ => True) : FD g s best has order := by
  have dn : ∀ v, inV g v → rdb has v = true → rdb don v = true := by
    intro v hv hh
    cases e : rdb don v with
    | true => rfl
    | false => exact (hd.wait v hv hh e).elim
  refine ⟨hd.lb, hd.lh, fun v hv hh => ⟨(hd.real v hv hh).1, (hd.real v hv hh).2.1⟩, fun v hv hh => (by have a := (hd.real v hv hh).2.2; have b := hd.len; omega), fun {v n c e} w => ?_, fun v => ⟨fun hm => ⟨((hd.ord v).1 hm).1, (hd.dn v ((hd.ord v).1 hm).1 ((hd.ord v).1 hm).2).1⟩, fun hm => (hd.ord v).2 ⟨hm.1, dn v hm.1 hm.2⟩⟩, hd.nd, hd.srt⟩
  induction w with
  | base => exact hd.st
  | @step v n c e k w k1 k2 ih =>
    have f := w.fine h h0 h1
    obtain ⟨a, b⟩ := hd.arcs v k ⟨f.v0, f.v1⟩ (dn v ⟨f.v0, f.v1⟩ ih.1) k1 k2 trivial
    refine ⟨a, b.trans ?_⟩
    have := ih.2
    unfold Le arcR at *
    dsimp only at *
    push_cast
    omega
/-- The least of the vertices of the edge t, among the first i. -/
def GL (g : Gr) (t : Int) (best : List Rc) (has : List Bool) (i : Nat) (q : Rc) : Prop :=
  (q.a = -1 ∧ ∀ v : Nat, v < i → rd g.edgeOf v = t → rdb has v = false) ∨ ∃ u : Nat, u < i ∧ rd g.edgeOf u = t ∧ rdb has u = true ∧ q = nth best u ∧ ∀ v : Nat, v < i → rd g.edgeOf v = t → rdb has v = true → Le q (nth best v)
theorem GL.start (best : List Rc) (has : List Bool) (b v : Int) : GL g t best has 0 ⟨-1, b, v⟩ := .inl ⟨rfl, fun v hv => by omega⟩
theorem GL.no {best : List Rc} {has : List Bool} {i : Nat} {q : Rc} (h : GL g t best has i q) (hi : ¬ (rd g.edgeOf i = t ∧ rdb has i = true)) : GL g t best has (i + 1) q := by
  rcases h with ⟨h1, h2⟩ | ⟨u, h1, h2, h3, h4, h5⟩
  · refine .inl ⟨h1, fun v hv he => ?_⟩
    by_cases e : v = i
    · subst e
      cases hh : rdb has v with
      | false => rfl
      | true => exact absurd ⟨he, hh⟩ hi
    · exact h2 v (by omega) he
  · refine .inr ⟨u, by omega, h2, h3, h4, fun v hv he hh => ?_⟩
    by_cases e : v = i
    · subst e
      exact absurd ⟨he, hh⟩ hi
    · exact h5 v (by omega) he hh
theorem GL.yes {best : List Rc} {has : List Bool} {i : Nat} {q : Rc} (h : GL g t best has i q) (h1 : rd g.edgeOf i = t) (h2 : rdb has i = true) (hq : q.a < 0 ∨ Lt (nth best i) q) (h0 : ∀ v : Nat, v < i → rdb has v = true → 0 ≤ (nth best v).a) : GL g t best has (i + 1) (nth best i) := by
  refine .inr ⟨i, by omega, h1, h2, rfl, fun v hv he hh => ?_⟩
  by_cases e : v = i
  · subst e
    exact Le.refl _
  · rcases h with ⟨h3, h4⟩ | ⟨u, h3, h4, h5, rfl, h6⟩
    · rw [h4 v (by omega) he] at hh
      cases hh
    · rcases hq with hq | hq
      · have := h0 u h3 h5
        omega
      · exact hq.le.trans (h6 v (by omega) he hh)
theorem GL.keep {best : List Rc} {has : List Bool} {i : Nat} {q : Rc} (h : GL g t best has i q) (h1 : rd g.edgeOf i = t) (h2 : rdb has i = true) (hq : ¬ (q.a < 0 ∨ Lt (nth best i) q)) : GL g t best has (i + 1) q := by
  rcases h with ⟨h3, h4⟩ | ⟨u, h3, h4, h5, h7, h6⟩
  · exact absurd (.inl (by omega)) hq
  · refine .inr ⟨u, by omega, h4, h5, h7, fun v hv he hh => ?_⟩
    by_cases e : v = i
    · subst e
      exact not_Lt.1 fun h => hq (.inr h)
    · exact h6 v (by omega) he hh
theorem FD.nn (h : VG g) (h0 : 0 ≤ s) (h1 : s < g.start.length) {best : List Rc} {has : List Bool} {order : List Int} (hf : FD g s best has order) {v : Int} (hv : inV g v) (hh : rdb has v = true) : 0 ≤ (nth best v).a ∧ 1 ≤ (nth best v).b := by
  obtain ⟨n, e, w, hb⟩ := (hf.real v hv hh).2
  have := (w.fine h h0 h1).c0
  omega
theorem FD.none (h : VG g) (h0 : 0 ≤ s) (h1 : s < g.start.length) {best : List Rc} {has : List Bool} {order : List Int} (hf : FD g s best has order) {q : Rc} (hq : GL g t best has g.edgeOf.length q) (hn : q.a < 0) : IsBest g s t none := by
  refine ⟨fun c e he => (by cases he), fun v n c e w hv => ?_⟩
  exfalso
  have f := w.fine h h0 h1
  have a := hf.all w
  obtain ⟨i, rfl⟩ := Int.eq_ofNat_of_zero_le f.v0
  have fv := f.v1
  rcases hq with ⟨h2, h3⟩ | ⟨u, h2, h3, h4, rfl, h5⟩
  · rw [h3 i (by omega) hv] at a
    cases a.1
  · have := hf.nn h h0 h1 (v := u) ⟨by omega, by omega⟩ h4
    omega
def Tight (g : Gr) (best : List Rc) (v k : Int) : Prop := (nth best (rd g.to k)).a = (nth best v).a + rd g.cost k ∧ (nth best (rd g.to k)).b = (nth best v).b + 1
inductive Good (g : Gr) (t : Int) (best : List Rc) (q : Rc) : Int → Prop
  | base {v : Int} : rd g.edgeOf v = t → (nth best v).a = q.a → (nth best v).b = q.b → Good g t best q v
  | step {v : Int} (k : Int) : rd g.first v ≤ k → k < rd g.first (v + 1) → Tight g best v k → Good g t best q (rd g.to k) → Good g t best q v
theorem Good.le {best : List Rc} {q : Rc} {v : Int} (h : Good g t best q v) : (nth best v).b ≤ q.b ∧ ((nth best v).b = q.b → (nth best v).a = q.a ∧ rd g.edgeOf v = t) := by
  induction h with
  | base h1 h2 h3 => exact ⟨by omega, fun _ => ⟨h2, h1⟩⟩
  | step k h1 h2 h3 h4 ih =>
    have := h3.2
    exact ⟨by omega, fun e => by omega⟩
/-- The way on. -/
inductive Fw (g : Gr) : Int → Nat → Int → List Int → Int → Prop
  | nil (v : Int) : Fw g v 0 0 [] v
  | cons {v u : Int} {n : Nat} {c : Int} {e : List Int} (k : Int) : rd g.first v ≤ k → k < rd g.first (v + 1) → Fw g (rd g.to k) n c e u → Fw g v (n + 1) (rd g.cost k + c) (rd g.edgeOf (rd g.to k) :: e) u
theorem Fw.snoc {v u : Int} {n : Nat} {c : Int} {e : List Int} (h : Fw g v n c e u) : ∀ k, rd g.first u ≤ k → k < rd g.first (u + 1) → Fw g v (n + 1) (c + rd g.cost k) (e ++ [rd g.edgeOf (rd g.to k)]) (rd g.to k) := by
  induction h with
  | nil v =>
    intro k k1 k2
    have := Fw.cons k k1 k2 (.nil (rd g.to k))
    rwa [show rd g.cost k + 0 = 0 + rd g.cost k by omega] at this
  | cons k0 a b w ih =>
    intro k k1 k2
    have := Fw.cons k0 a b (ih k k1 k2)
    rwa [← Int.add_assoc] at this
theorem Wal.fw {v : Int} {n : Nat} {c : Int} {e : List Int} (w : Wal g s v n c e) : ∃ e', e = s :: e' ∧ Fw g (rd g.start s) n (c - rd g.weight s) e' v := by
  induction w with
  | base => exact ⟨[], rfl, by rw [Int.sub_self]; exact .nil _⟩
  | step k w k1 k2 ih =>
    obtain ⟨e', rfl, f⟩ := ih
    refine ⟨_, rfl, ?_⟩
    have := f.snoc k k1 k2
    rwa [show ∀ a b c : Int, a - b + c = a + c - b by omega] at this
theorem Wal.fws {v u : Int} {n m : Nat} {c d : Int} {e e' : List Int} (w : Wal g s v n c e) (f : Fw g v m d e' u) : Wal g s u (n + m) (c + d) (e ++ e') := by
  induction f generalizing n c e with
  | nil v => simpa using w
  | cons k k1 k2 f ih =>
    have := ih (w.step k k1 k2)
    rw [List.append_assoc] at this
    rw [← Int.add_assoc]
    have e1 : ∀ a b : Nat, a + (b + 1) = a + 1 + b := by omega
    rw [e1]
    exact this
theorem Fw.len {v u : Int} {n : Nat} {c : Int} {e : List Int} (h : Fw g v n c e u) : e.length = n := by
  induction h with
  | nil v => rfl
  | cons k a b w ih => simp [ih]
/-- The setting: the search is done, q is the least vertex of t. -/
structure OK (g : Gr) (s t : Int) (best : List Rc) (has : List Bool) (order : List Int) (q : Rc) : Prop extends FD g s best has order where
  vg : VG g
  s0 : 0 ≤ s
  s1 : s < g.start.length
  q0 : 0 ≤ q.a
  low : ∀ v, inV g v → rd g.edgeOf v = t → rdb has v = true → Le q (nth best v)
  hit : ∃ u, inV g u ∧ rd g.edgeOf u = t ∧ rdb has u = true ∧ q = nth best u
theorem FD.ok (h : VG g) (h0 : 0 ≤ s) (h1 : s < g.start.length) {best : List Rc} {has : List Bool} {order : List Int} (hf : FD g s best has order) {q : Rc} (hq : GL g t best has g.edgeOf.length q) (hn : ¬ q.a < 0) : OK g s t best has order q := by
  rcases hq with ⟨h2, h3⟩ | ⟨u, h2, h3, h4, h5, h6⟩
  · omega
  · refine ⟨hf, h, h0, h1, by omega, fun v hv he hh => ?_, u, ⟨by omega, by omega⟩, h3, h4, h5⟩
    obtain ⟨i, rfl⟩ := Int.eq_ofNat_of_zero_le hv.1
    have := hv.2
    exact h6 i (by omega) he hh
/-- The ends of best walks. -/
def Opt (g : Gr) (t : Int) (best : List Rc) (q : Rc) (v : Int) (e : List Int) : Prop := ∃ m c u, Fw g v m c e u ∧ rd g.edgeOf u = t ∧ (nth best v).a + c = q.a ∧ (nth best v).b + m = q.b
def LexMin (g : Gr) (t : Int) (best : List Rc) (q : Rc) (v : Int) (e : List Int) : Prop := Opt g t best q v e ∧ ∀ e', Opt g t best q v e' → e = e' ∨ Short.lex e e' = true
section
variable {best : List Rc} {has : List Bool} {order : List Int} {q : Rc}
theorem OK.reach (h : OK g s t best has order q) {v : Int} (hv : inV g v) (hh : rdb has v = true) {k : Int} (k1 : rd g.first v ≤ k) (k2 : k < rd g.first (v + 1)) : inV g (rd g.to k) ∧ rdb has (rd g.to k) = true ∧ Le (nth best (rd g.to k)) (arcR g (nth best v) k) := by
  obtain ⟨n, e, w, hb⟩ := (h.real v hv hh).2
  rw [(h.real v hv hh).1] at w
  have ac := h.vg.arcOf hv.1 hv.2 k1 k2
  have a := h.all (w.step k k1 k2)
  refine ⟨⟨ac.1, ac.2.1⟩, a.1, ?_⟩
  have := a.2
  unfold Le arcR at *
  dsimp only at *
  push_cast at this
  omega
/-- No end of a walk is better than the best ends. -/
theorem OK.least (h : OK g s t best has order q) {v u : Int} {m : Nat} {c : Int} {e : List Int} (hv : inV g v) (hh : rdb has v = true) (f : Fw g v m c e u) (hu : rd g.edgeOf u = t) : Le q ⟨(nth best v).a + c, (nth best v).b + m, u⟩ := by
  obtain ⟨n, e0, w, hb⟩ := (h.real v hv hh).2
  rw [(h.real v hv hh).1] at w
  have w2 := w.fws f
  have a := h.all w2
  have fi := w2.fine h.vg h.s0 h.s1
  have b := h.low u ⟨fi.v0, fi.v1⟩ hu a.1
  have c := b.trans a.2
  unfold Le at *
  dsimp only at *
  push_cast at c
  omega
theorem OK.split (h : OK g s t best has order q) {v u k : Int} {m : Nat} {c : Int} {e : List Int} (hv : inV g v) (hh : rdb has v = true) (k1 : rd g.first v ≤ k) (k2 : k < rd g.first (v + 1)) (f : Fw g (rd g.to k) m c e u) (hu : rd g.edgeOf u = t) (ha : (nth best v).a + (rd g.cost k + c) = q.a) (hb : (nth best v).b + (m + 1 : Nat) = q.b) :
    Tight g best v k ∧ (nth best (rd g.to k)).a + c = q.a ∧ (nth best (rd g.to k)).b + m = q.b := by
  obtain ⟨r1, r2, r3⟩ := h.reach hv hh k1 k2
  have l := h.least r1 r2 f hu
  unfold Tight Le arcR at *
  dsimp only at *
  push_cast at hb
  omega
theorem OK.fwGood (h : OK g s t best has order q) {v u : Int} {m : Nat} {c : Int} {e : List Int} (f : Fw g v m c e u) : inV g v → rdb has v = true → rd g.edgeOf u = t → (nth best v).a + c = q.a → (nth best v).b + m = q.b → Good g t best q v := by
  induction f with
  | nil v => exact fun hv hh hu ha hb => .base hu (by omega) (by simpa using hb)
  | cons k k1 k2 f ih =>
    intro hv hh hu ha hb
    obtain ⟨a, b, c⟩ := h.split hv hh k1 k2 f hu ha hb
    obtain ⟨r1, r2, r3⟩ := h.reach hv hh k1 k2
    exact .step k k1 k2 a (ih r1 r2 hu b c)
theorem least_int {p : Int → Prop} {a : Int} : ∀ (n : Nat) (k : Int), (k - a).toNat = n → a ≤ k → p k → ∃ k', a ≤ k' ∧ k' ≤ k ∧ p k' ∧ ∀ j, a ≤ j → j < k' → ¬ p j := by
  intro n
  induction n using Nat.strongRecOn with
  | _ n ih =>
    intro k hn hk hp
    by_cases h : ∃ j, a ≤ j ∧ j < k ∧ p j
    · obtain ⟨j, j1, j2, j3⟩ := h
      obtain ⟨k', a1, a2, a3⟩ := ih (j - a).toNat (by omega) j rfl j1 j3
      exact ⟨k', a1, by omega, a3⟩
    · exact ⟨k, hk, Int.le_refl _, hp, fun j j1 j2 hj => h ⟨j, j1, j2, hj⟩⟩
theorem VG.up (h : VG g) {v : Int} (hv : inV g v) {k : Int} (k1 : rd g.first v ≤ k) : ∀ n : Nat, k + 1 + n < rd g.first (v + 1) → rd g.edgeOf (rd g.to k) < rd g.edgeOf (rd g.to (k + 1 + n)) := by
  obtain ⟨i, rfl⟩ := Int.eq_ofNat_of_zero_le hv.1
  have hi := hv.2
  intro n
  induction n with
  | zero =>
    intro h2
    have := h.a i (by omega) (k + 1) (by omega) (by simpa using h2)
    rw [show k + 1 - 1 = k by omega] at this
    simpa using this
  | succ n ih =>
    intro h2
    have a := ih (by omega)
    have b := h.a i (by omega) (k + 1 + (n + 1 : Nat)) (by omega) h2
    rw [show k + 1 + ((n + 1 : Nat) : Int) - 1 = k + 1 + n by omega] at b
    omega
theorem Opt.one {v : Int} {e e' : List Int} (h : LexMin g t best q v e) (h' : LexMin g t best q v e') : e = e' := by
  have no : ∀ {a b : List Int}, Short.lex a b = true → Short.lex b a = true → False := by
    intro a b h1 h2
    have := Short.lex_trans h1 h2
    rw [Short.lex_irrefl] at this
    cases this
  rcases h.2 _ h'.1 with e1 | e1
  · exact e1
  · rcases h'.2 _ h.1 with e2 | e2
    · exact e2.symm
    · exact (no e1 e2).elim
/-- The first arc that is tight and leads to what is good leads on the least way. -/
theorem OK.first (h : OK g s t best has order q) {v k : Int} (hv : inV g v) (hh : rdb has v = true) (k1 : rd g.first v ≤ k) (k2 : k < rd g.first (v + 1)) (ht : Tight g best v k) (hno : ∀ j, rd g.first v ≤ j → j < k → ¬ (Tight g best v j ∧ Good g t best q (rd g.to j))) {e : List Int} (he : LexMin g t best q (rd g.to k) e) : LexMin g t best q v (rd g.edgeOf (rd g.to k) :: e) := by
  obtain ⟨⟨m, c, u, f, hu, ha, hb⟩, hl⟩ := he
  refine ⟨⟨m + 1, _, u, f.cons k k1 k2, hu, ?_, ?_⟩, fun e' ⟨m', c', u', f', hu', ha', hb'⟩ => ?_⟩
  · have := ht.1
    omega
  · have := ht.2
    push_cast
    omega
  · cases f' with
    | nil =>
      exfalso
      have := ht.2
      simp at hb'
      omega
    | cons k' l1 l2 f' =>
      obtain ⟨a, b, c⟩ := h.split hv hh l1 l2 f' hu' ha' hb'
      obtain ⟨r1, r2, r3⟩ := h.reach hv hh l1 l2
      have gd := h.fwGood f' r1 r2 hu' b c
      have le : k ≤ k' := Int.not_lt.1 fun hlt => hno k' l1 hlt ⟨a, gd⟩
      by_cases e1 : k = k'
      · subst e1
        rcases hl _ ⟨_, _, u', f', hu', b, c⟩ with e2 | e2
        · exact .inl (by rw [e2])
        · right
          unfold Short.lex
          rw [if_pos rfl]
          exact e2
      · right
        have lt := h.vg.up hv k1 (k' - k - 1).toNat (by omega)
        rw [show k + 1 + ((k' - k - 1).toNat : Int) = k' by omega] at lt
        unfold Short.lex
        rw [if_neg (by omega)]
        simpa using lt
theorem OK.lexMin (h : OK g s t best has order q) : ∀ (n : Nat) {v : Int}, (q.b - (nth best v).b).toNat = n → inV g v → rdb has v = true → Good g t best q v → ∃ e, LexMin g t best q v e := by
  intro n
  induction n using Nat.strongRecOn with
  | _ n ih =>
    intro v hn hv hh hg
    by_cases hb : (nth best v).b = q.b
    · obtain ⟨ha, he⟩ := hg.le.2 hb
      refine ⟨[], ⟨0, 0, v, .nil v, he, by omega, by simpa using hb⟩, fun e' ⟨m', c', u', f', hu', ha', hb'⟩ => ?_⟩
      cases f' with
      | nil => exact .inl rfl
      | cons k' l1 l2 f' => push_cast at hb'; omega
    · have : ∃ k, rd g.first v ≤ k ∧ (k < rd g.first (v + 1) ∧ Tight g best v k ∧ Good g t best q (rd g.to k)) := by
        cases hg with
        | base _ _ h3 => exact absurd h3 hb
        | step k k1 k2 k3 k4 => exact ⟨k, k1, k2, k3, k4⟩
      obtain ⟨k0, a0, b0⟩ := this
      obtain ⟨k, k1, k2, ⟨k3, k4, k5⟩, k6⟩ := least_int (p := fun k => k < rd g.first (v + 1) ∧ Tight g best v k ∧ Good g t best q (rd g.to k)) _ k0 rfl a0 b0
      obtain ⟨r1, r2, r3⟩ := h.reach hv hh k1 k3
      have t2 := k4.2
      have gl := k5.le.1
      obtain ⟨e, he⟩ := ih (q.b - (nth best (rd g.to k)).b).toNat (by omega) rfl r1 r2 k5
      exact ⟨_, h.first hv hh k1 k3 k4 (fun j j1 j2 hj => k6 j j1 j2 ⟨by omega, hj⟩) he⟩
/-- The start is good, and its least end makes the route that is asked for. -/
theorem OK.start (h : OK g s t best has order q) : inV g (rd g.start s) ∧ rdb has (rd g.start s) = true ∧ (nth best (rd g.start s)).a = rd g.weight s ∧ (nth best (rd g.start s)).b = 1 ∧ Good g t best q (rd g.start s) ∧ ∀ e, LexMin g t best q (rd g.start s) e → IsBest g s t (some (q.a, s :: e)) := by
  have st := h.vg.startOf h.s0 h.s1
  have sr : inV g (rd g.start s) := ⟨st.1, st.2.1⟩
  have a := h.all (.base (g := g) (s := s))
  obtain ⟨n, e0, w0, hb0⟩ := (h.real _ sr a.1).2
  have ew : (nth best (rd g.start s)).a = rd g.weight s ∧ (nth best (rd g.start s)).b = 1 := by
    have a2 := a.2
    have f0 := w0.fine h.vg h.s0 h.s1
    have c1 : rd g.weight s ≤ (nth best (rd g.start s)).a := by
      have mono : ∀ {v : Int} {n : Nat} {c : Int} {e : List Int}, Wal g s v n c e → rd g.weight s ≤ c := by
        intro v n c e w
        induction w with
        | base => exact Int.le_refl _
        | step k w k1 k2 ih =>
          have f := w.fine h.vg h.s0 h.s1
          have := h.vg.arcOf f.v0 f.v1 k1 k2
          omega
      exact mono w0
    unfold Le at a2
    dsimp only at a2
    omega
  obtain ⟨u, u1, u2, u3, u4⟩ := h.hit
  obtain ⟨n1, e1, w1, hb1⟩ := (h.real u u1 u3).2
  rw [(h.real u u1 u3).1] at w1
  obtain ⟨e2, e3, f1⟩ := w1.fw
  have gd : Good g t best q (rd g.start s) := h.fwGood f1 sr a.1 u2 (by rw [u4]; omega) (by rw [u4]; omega)
  refine ⟨sr, a.1, ew.1, ew.2, gd, fun e he => ⟨fun c e' hce => ?_, fun v m c e' w hv => ⟨_, _, rfl, ?_⟩⟩⟩
  · cases hce
    obtain ⟨⟨m, c, u', f', hu', ha', hb'⟩, _⟩ := he
    have w := (Wal.base (g := g) (s := s)).fws f'
    rw [show rd g.weight s + c = q.a by omega] at w
    exact ⟨u', 0 + m, w, hu'⟩
  · obtain ⟨e4, e5, f4⟩ := w.fw
    have l := h.least sr a.1 f4 hv
    have fi := w.fine h.vg h.s0 h.s1
    obtain ⟨⟨m', c', u', f', hu', ha', hb'⟩, hl⟩ := he
    have ll := f'.len
    have el := fi.el
    unfold Le at l
    dsimp only at l
    by_cases e6 : q.a = c
    · refine .inr ⟨e6, ?_⟩
      by_cases e7 : q.b = m + 1
      · rcases hl e4 ⟨m, _, v, f4, hv, by omega, by omega⟩ with e8 | e8
        · exact .inl (by rw [e5, e8])
        · right
          have l4 := f4.len
          rw [e5]
          unfold Short.before
          rw [if_pos (by simp; omega)]
          unfold Short.lex
          rw [if_pos rfl]
          exact e8
      · right
        unfold Short.before
        rw [if_neg (by rw [el]; simp; omega)]
        rw [el]
        simp
        omega
    · exact .inl (by omega)
end
end Cal

/- The plain law of the search, third part: what is good, from the end. -/
set_option linter.unusedSimpArgs false
set_option linter.unusedVariables false
namespace Cal
open Go Go.Proofs
variable {g : Gr} {s t : Int} {best : List Rc} {has : List Bool} {order : List Int} {q : Rc}
theorem rd_mem {l : List Int} {v : Int} : v ∈ l ↔ ∃ j : Nat, j < l.length ∧ rd l j = v := by
  rw [List.mem_iff_getElem]
  constructor
  · rintro ⟨j, hj, rfl⟩
    exact ⟨j, hj, by unfold rd; rw [Int.toNat_natCast, List.getD_eq_getElem?_getD, List.getElem?_eq_getElem hj]; rfl⟩
  · rintro ⟨j, hj, rfl⟩
    exact ⟨j, hj, by unfold rd; rw [Int.toNat_natCast, List.getD_eq_getElem?_getD, List.getElem?_eq_getElem hj]; rfl⟩
theorem rd_get {l : List Int} {j : Nat} (hj : j < l.length) : rd l j = l[j] := by
  unfold rd
  rw [Int.toNat_natCast, List.getD_eq_getElem?_getD, List.getElem?_eq_getElem hj]
  rfl
/-- What is marked good: what is good among what was done from i on. -/
def GB (g : Gr) (t : Int) (best : List Rc) (order : List Int) (q : Rc) (i : Nat) (good : List Bool) : Prop :=
  good.length = g.edgeOf.length ∧ ∀ v, inV g v → (rdb good v = true ↔ (∃ j : Nat, i ≤ j ∧ j < order.length ∧ rd order j = v) ∧ Good g t best q v)
def isT (g : Gr) (t : Int) (best : List Rc) (q : Rc) (x : Int) : Prop := rd g.edgeOf x = t ∧ (nth best x).a = q.a ∧ (nth best x).b = q.b
instance (x : Int) : Decidable (isT g t best q x) := by unfold isT; infer_instance
instance (x k : Int) : Decidable (Tight g best x k) := by unfold Tight; infer_instance
structure GX (g : Gr) (t : Int) (best : List Rc) (order : List Int) (q : Rc) (i : Nat) (x k : Int) (good : List Bool) : Prop where
  lg : good.length = g.edgeOf.length
  oth : ∀ v, inV g v → v ≠ x → (rdb good v = true ↔ (∃ j : Nat, i < j ∧ j < order.length ∧ rd order j = v) ∧ Good g t best q v)
  me : rdb good x = true ↔ isT g t best q x ∨ ∃ k', rd g.first x ≤ k' ∧ k' < k ∧ Tight g best x k' ∧ Good g t best q (rd g.to k')
theorem GB.start : GB g t best order q order.length (List.replicate g.edgeOf.length false) := by
  refine ⟨by simp, fun v hv => ⟨fun h => ?_, fun ⟨⟨j, h1, h2, _⟩, _⟩ => by omega⟩⟩
  unfold rdb at h
  rw [List.getD_eq_getElem?_getD, List.getElem?_replicate] at h
  split at h <;> cases h
theorem OK.later (h : OK g s t best has order q) {i : Nat} (hi : i < order.length) {k : Int} (k1 : rd g.first (rd order i) ≤ k) (k2 : k < rd g.first (rd order i + 1)) (ht : Tight g best (rd order i) k) : ∃ j : Nat, i < j ∧ j < order.length ∧ rd order j = rd g.to k := by
  obtain ⟨hv, hh⟩ := (h.ord _).1 (rd_mem.2 ⟨i, hi, rfl⟩)
  obtain ⟨r1, r2, r3⟩ := h.reach hv hh k1 k2
  have ac := h.vg.arcOf hv.1 hv.2 k1 k2
  obtain ⟨j, hj, he⟩ := rd_mem.1 ((h.ord _).2 ⟨r1, r2⟩)
  refine ⟨j, Nat.lt_of_not_le fun hji => ?_, hj, he⟩
  have : Le (nth best (rd order j)) (nth best (rd order i)) := by
    rcases Nat.lt_or_ge j i with h1 | h1
    · have := List.pairwise_iff_getElem.1 h.srt j i hj hi h1
      rwa [← rd_get hj, ← rd_get hi] at this
    · rw [show j = i by omega]
      exact Le.refl _
  rw [he] at this
  obtain ⟨a, b⟩ := ht
  unfold Le at this
  omega
theorem OK.here (h : OK g s t best has order q) {i : Nat} (hi : i < order.length) : inV g (rd order i) ∧ rdb has (rd order i) = true ∧ ¬ ∃ j : Nat, i + 1 ≤ j ∧ j < order.length ∧ rd order j = rd order i := by
  obtain ⟨hv, hh⟩ := (h.ord _).1 (rd_mem.2 ⟨i, hi, rfl⟩)
  refine ⟨hv, hh, fun ⟨j, h1, h2, h3⟩ => ?_⟩
  have := List.pairwise_iff_getElem.1 h.nd i j hi h2 (by omega)
  rw [← rd_get hi, ← rd_get h2] at this
  exact this h3.symm
theorem GB.yes {good : List Bool} {i : Nat} (h : OK g s t best has order q) (hi : i < order.length) (hG : GB g t best order q (i + 1) good) (ht : isT g t best q (rd order i)) : GX g t best order q i (rd order i) (rd g.first (rd order i)) (good.set (rd order i).toNat true) := by
  obtain ⟨hv, hh, hn⟩ := h.here hi
  have e : ∀ v, inV g v → rdb (good.set (rd order i).toNat true) v = if v = rd order i then true else rdb good v := fun v hv' => rdb_set hv.1 (by rw [hG.1]; exact hv.2) hv'.1
  refine ⟨by rw [List.length_set]; exact hG.1, fun v hv' hne => ?_, ?_⟩
  · rw [e v hv', if_neg hne]
    exact hG.2 v hv'
  · rw [e _ hv, if_pos rfl]
    exact ⟨fun _ => .inl ht, fun _ => rfl⟩
theorem GB.no {good : List Bool} {i : Nat} (h : OK g s t best has order q) (hi : i < order.length) (hG : GB g t best order q (i + 1) good) (ht : ¬ isT g t best q (rd order i)) : GX g t best order q i (rd order i) (rd g.first (rd order i)) good := by
  obtain ⟨hv, hh, hn⟩ := h.here hi
  refine ⟨hG.1, fun v hv' hne => hG.2 v hv', ?_⟩
  rw [hG.2 _ hv]
  constructor
  · rintro ⟨h1, _⟩
    exact absurd h1 hn
  · rintro (h1 | ⟨k', h1, h2, _⟩)
    · exact absurd h1 ht
    · omega
theorem GX.read {good : List Bool} {i : Nat} {k0 : Int} (h : OK g s t best has order q) (hi : i < order.length) (hG : GX g t best order q i (rd order i) k0 good) {k : Int} (k1 : rd g.first (rd order i) ≤ k) (k2 : k < rd g.first (rd order i + 1)) (ht : Tight g best (rd order i) k) : rdb good (rd g.to k) = true ↔ Good g t best q (rd g.to k) := by
  obtain ⟨hv, hh, hn⟩ := h.here hi
  obtain ⟨r1, r2, r3⟩ := h.reach hv hh k1 k2
  obtain ⟨j, h1, h2, h3⟩ := h.later hi k1 k2 ht
  have ne : rd g.to k ≠ rd order i := fun e => by
    have := ht.2
    rw [e] at this
    omega
  rw [hG.oth _ r1 ne]
  exact ⟨fun x => x.2, fun x => ⟨⟨j, h1, h2, h3⟩, x⟩⟩
theorem GX.yes {good : List Bool} {i : Nat} {k : Int} (h : OK g s t best has order q) (hi : i < order.length) (hG : GX g t best order q i (rd order i) k good) (k1 : rd g.first (rd order i) ≤ k) (ht : Tight g best (rd order i) k) (hg : Good g t best q (rd g.to k)) : GX g t best order q i (rd order i) (k + 1) (good.set (rd order i).toNat true) := by
  obtain ⟨hv, hh, hn⟩ := h.here hi
  have e : ∀ v, inV g v → rdb (good.set (rd order i).toNat true) v = if v = rd order i then true else rdb good v := fun v hv' => rdb_set hv.1 (by rw [hG.lg]; exact hv.2) hv'.1
  refine ⟨by rw [List.length_set]; exact hG.lg, fun v hv' hne => ?_, ?_⟩
  · rw [e v hv', if_neg hne]
    exact hG.oth v hv' hne
  · rw [e _ hv, if_pos rfl]
    exact ⟨fun _ => .inr ⟨k, k1, by omega, ht, hg⟩, fun _ => rfl⟩
theorem GX.no {good : List Bool} {i : Nat} {x k : Int} (hG : GX g t best order q i x k good) (hn : ¬ (Tight g best x k ∧ Good g t best q (rd g.to k))) : GX g t best order q i x (k + 1) good := by
  refine ⟨hG.lg, hG.oth, hG.me.trans ⟨?_, ?_⟩⟩
  · rintro (h1 | ⟨k', a, b, c⟩)
    · exact .inl h1
    · exact .inr ⟨k', a, by omega, c⟩
  · rintro (h1 | ⟨k', a, b, c⟩)
    · exact .inl h1
    · by_cases e : k' = k
      · subst e
        exact absurd c hn
      · exact .inr ⟨k', a, by omega, c⟩
theorem GX.close {good : List Bool} {i : Nat} (h : OK g s t best has order q) (hi : i < order.length) (hG : GX g t best order q i (rd order i) (rd g.first (rd order i + 1)) good) : GB g t best order q i good := by
  refine ⟨hG.lg, fun v hv => ?_⟩
  by_cases e : v = rd order i
  · subst e
    rw [hG.me]
    constructor
    · rintro (⟨h1, h2, h3⟩ | ⟨k', a, b, c, d⟩)
      · exact ⟨⟨i, Nat.le_refl _, hi, rfl⟩, .base h1 h2 h3⟩
      · exact ⟨⟨i, Nat.le_refl _, hi, rfl⟩, .step k' a b c d⟩
    · rintro ⟨_, hg⟩
      cases hg with
      | base h1 h2 h3 => exact .inl ⟨h1, h2, h3⟩
      | step k a b c d => exact .inr ⟨k, a, b, c, d⟩
  · rw [hG.oth v hv e]
    constructor
    · rintro ⟨⟨j, a, b, c⟩, d⟩
      exact ⟨⟨j, by omega, b, c⟩, d⟩
    · rintro ⟨⟨j, a, b, c⟩, d⟩
      refine ⟨⟨j, ?_, b, c⟩, d⟩
      rcases Nat.lt_or_ge i j with h1 | h1
      · exact h1
      · exact absurd (by rw [← c, show j = i by omega]) e
theorem GB.all {good : List Bool} (h : OK g s t best has order q) (hG : GB g t best order q 0 good) {v : Int} (hv : inV g v) (hh : rdb has v = true) : rdb good v = true ↔ Good g t best q v := by
  rw [hG.2 v hv]
  obtain ⟨j, hj, he⟩ := rd_mem.1 ((h.ord v).2 ⟨hv, hh⟩)
  exact ⟨fun x => x.2, fun x => ⟨⟨j, Nat.zero_le _, hj, he⟩, x⟩⟩
/-- A step on the least way. -/
theorem OK.stepOn (h : OK g s t best has order q) {v k : Int} (hv : inV g v) (hh : rdb has v = true) (k1 : rd g.first v ≤ k) (k2 : k < rd g.first (v + 1)) (ht : Tight g best v k) (hg : Good g t best q (rd g.to k)) (hno : ∀ j, rd g.first v ≤ j → j < k → ¬ (Tight g best v j ∧ Good g t best q (rd g.to j))) {e : List Int} (he : LexMin g t best q v e) : ∃ e', e = rd g.edgeOf (rd g.to k) :: e' ∧ LexMin g t best q (rd g.to k) e' := by
  obtain ⟨r1, r2, r3⟩ := h.reach hv hh k1 k2
  obtain ⟨e', he'⟩ := h.lexMin _ rfl r1 r2 hg
  exact ⟨e', Opt.one he (h.first hv hh k1 k2 ht hno he'), he'⟩
theorem OK.some (h : OK g s t best has order q) {v : Int} (hg : Good g t best q v) (hb : (nth best v).b < q.b) : ∃ k, rd g.first v ≤ k ∧ k < rd g.first (v + 1) ∧ Tight g best v k ∧ Good g t best q (rd g.to k) := by
  cases hg with
  | base _ _ h3 => omega
  | step k a b c d => exact ⟨k, a, b, c, d⟩
theorem LexMin.stop {v : Int} {e : List Int} (he : LexMin g t best q v e) (hb : ¬ (nth best v).b < q.b) : e = [] := by
  obtain ⟨⟨m, c, u, f, hu, ha, hb'⟩, _⟩ := he
  have := f.len
  exact List.eq_nil_of_length_eq_zero (by omega)
end Cal

/- impl.shortest: its state; calls in line; the closure. -/
set_option linter.unusedSimpArgs false
set_option linter.unusedVariables false
namespace Cal
open Go Go.Proofs
set_option maxRecDepth 100000
def encQ (r : Rc) : List T := [.v (.int .i64 r.a), .v (.int .i64 r.b), .v (.int .i64 r.v)]
def F0 : List Nat := [79003, 79006, 79008, 79014, 79018, 79021, 79026, 79030, 79033, 79035, 79037, 79050, 79051, 79085]
def ordV (o : List Int) : AV := if o.length = 0 then .t (.v (.slice none 0 0)) else .row (79085, 0) 1 0 o.length
def varG (g : Gr) : Ob := .var [.t (ints g.edgeOf), .t (ints g.stateOf), .t (ints g.first), .t (ints g.to), .t (ints g.cost), .t (ints g.start), .t (ints g.weight)]
def nilRt : Ob := .var [.t (.v (.int .i64 0)), .t (.v (.int .i64 0)), .t (.v (.slice none 0 0))]
def scL (g : Gr) (best : List Rc) (has : List Bool) (order : List Int) : List (Id × Ob) :=
  [((79003, 0), varG g), ((79006, 0), nilRt), ((79008, 0), .var [.row (79033, 0) 3 0 best.length]), ((79033, 0), .row 3 (recRow encQ best)), ((79037, 0), .row 1 (boolRow has))] ++ if order.length = 0 then [] else [((79085, 0), .row 1 (intRow order))]
/-- The state behind the search, and in it. -/
structure SC (g : Gr) (e t : Int) (best : List Rc) (has : List Bool) (order : List Int) (s : St) : Prop where
  s1 : s.tm 1 = .t (.v (.int .i64 e))
  s2 : s.tm 2 = .t (.v (.int .i64 t))
  s3 : s.tm 3 = .ptr (79003, 0) 0 0
  s6 : s.tm 6 = .ptr (79006, 0) 0 0
  s7 : s.tm 7 = .t (.v (.int .i64 g.edgeOf.length))
  s8 : s.tm 8 = .ptr (79008, 0) 0 0
  s10 : s.tm 10 = .row (79037, 0) 1 0 has.length
  s11 : s.tm 11 = .t (.v (.int .i64 (rd g.start e)))
  s13 : s.tm 13 = ordV order
  o3 : s.ob (79003, 0) = some (.var [.t (ints g.edgeOf), .t (ints g.stateOf), .t (ints g.first), .t (ints g.to), .t (ints g.cost), .t (ints g.start), .t (ints g.weight)])
  o6 : s.ob (79006, 0) = some (.var [.t (.v (.int .i64 0)), .t (.v (.int .i64 0)), .t (.v (.slice none 0 0))])
  o8 : s.ob (79008, 0) = some (.var [.row (79033, 0) 3 0 best.length])
  o33 : s.ob (79033, 0) = some (.row 3 (recRow encQ best))
  o37 : s.ob (79037, 0) = some (.row 1 (boolRow has))
  o85 : order.length ≠ 0 → s.ob (79085, 0) = some (.row 1 (intRow order))
structure SB (g : Gr) (e t : Int) (best : List Rc) (has don : List Bool) (order : List Int) (s : St) : Prop extends SC g e t best has order s where
  s9 : s.tm 9 = .row (79035, 0) 1 0 don.length
  s12 : s.tm 12 = .ptr (79050, 0) 0 0
  o35 : s.ob (79035, 0) = some (.row 1 (boolRow don))
def ts0 : List Nat := [1, 2, 3, 6, 7, 8, 10, 11, 13]
def tsB : List Nat := [9, 12] ++ ts0
def sbL (g : Gr) (best : List Rc) (has don : List Bool) (order : List Int) : List (Id × Ob) := ((79035, 0), .row 1 (boolRow don)) :: scL g best has order
@[simp] theorem ordV_kill (ds : List Nat) (o : List Int) : AV.kill ds (ordV o) = if ds.contains 79085 = true then (if o.length = 0 then .t (.v (.slice none 0 0)) else .bad) else ordV o := by
  unfold ordV
  by_cases h : 79085 ∈ ds <;> by_cases h2 : o.length = 0 <;> simp [h, h2, AV.kill]
@[simp] theorem ordV_ren (d e : Nat) (o : List Int) : AV.renG (renI d e) (ordV o) = if d = 79085 then (if o.length = 0 then .t (.v (.slice none 0 0)) else .row (e, 0) 1 0 o.length) else ordV o := by
  unfold ordV
  by_cases h : d = 79085 <;> by_cases h2 : o.length = 0 <;> simp [h, h2, AV.renG, renI] <;> omega
@[simp] theorem recQ_set (l : List Rc) (i : Nat) (a b v : Int) : (recRow encQ l).set i [.v (.int .i64 a), .v (.int .i64 b), .v (.int .i64 v)] = recRow encQ (l.set i ⟨a, b, v⟩) := by
  simp [recRow, encQ, List.map_set]
theorem ordV_free {E : List Nat} (h : E.contains 79085 = false) (o : List Int) : (ordV o).free fun id => ¬ calm E id := by
  have : 79085 ∉ E := by simpa using h
  unfold ordV
  split <;> simp [AV.free, calm, this]
theorem SC.free {g : Gr} {e t : Int} {best : List Rc} {has : List Bool} {order : List Int} {s : St} (h : SC g e t best has order s) : ∀ t ∈ ts0, (s.tm t).free fun id => ¬ calm hE id := by
  have := ordV_free (E := hE) rfl order
  simp [ts0, h.s1, h.s2, h.s3, h.s6, h.s7, h.s8, h.s10, h.s11, h.s13, AV.free, calm, hE, this] at *
  exact this
theorem SB.free {g : Gr} {e t : Int} {best : List Rc} {has don : List Bool} {order : List Int} {s : St} (h : SB g e t best has don order s) : ∀ t ∈ tsB, (s.tm t).free fun id => ¬ calm hE id := by
  intro t ht
  rcases List.mem_append.1 ht with ht | ht
  · simp at ht
    rcases ht with rfl | rfl
    · rw [h.s9]; simp [AV.free, calm, hE]
    · rw [h.s12]; simp [AV.free, calm, hE]
  · exact h.toSC.free t ht
theorem SC.list {g : Gr} {e t : Int} {best : List Rc} {has : List Bool} {order : List Int} {s : St} (h : SC g e t best has order s) : ∀ p ∈ scL g best has order, s.ob p.1 = some p.2 := by
  intro p hp
  unfold scL at hp
  rcases List.mem_append.1 hp with hp | hp
  · simp at hp
    rcases hp with rfl | rfl | rfl | rfl | rfl
    · exact h.o3
    · exact h.o6
    · exact h.o8
    · exact h.o33
    · exact h.o37
  · split at hp
    · cases hp
    · rename_i hn
      simp at hp
      subst hp
      exact h.o85 hn
theorem SB.list {g : Gr} {e t : Int} {best : List Rc} {has don : List Bool} {order : List Int} {s : St} (h : SB g e t best has don order s) : ∀ p ∈ sbL g best has don order, s.ob p.1 = some p.2 := by
  intro p hp
  rcases List.mem_cons.1 hp with rfl | hp
  · exact h.o35
  · exact h.toSC.list p hp
theorem scL_ok (g : Gr) (best : List Rc) (has : List Bool) (order : List Int) : ∀ p ∈ scL g best has order, AV.frees (fun id => ¬ calm hE id) p.2.avs ∧ calm hF p.1 := by
  intro p hp
  unfold scL at hp
  rcases List.mem_append.1 hp with hp | hp
  · simp at hp
    rcases hp with rfl | rfl | rfl | rfl | rfl <;> simp [Ob.avs, varG, nilRt, AV.frees, AV.free, calm, hE, hF]
  · split at hp
    · cases hp
    · simp at hp
      subst hp
      simp [Ob.avs, AV.frees, calm, hF]
theorem sbL_ok (g : Gr) (best : List Rc) (has don : List Bool) (order : List Int) : ∀ p ∈ sbL g best has don order, AV.frees (fun id => ¬ calm hE id) p.2.avs ∧ calm hF p.1 := by
  intro p hp
  rcases List.mem_cons.1 hp with rfl | hp
  · simp [Ob.avs, AV.frees, calm, hF]
  · exact scL_ok g best has order p hp
theorem SC.back {g : Gr} {e t : Int} {best : List Rc} {has : List Bool} {order : List Int} {s s' : St} (h : SC g e t best has order s) (h1 : ∀ t ∈ ts0, s'.tm t = s.tm t) (h2 : ∀ p ∈ scL g best has order, s'.ob p.1 = some p.2) : SC g e t best has order s' := by
  have m : ∀ t, t ∈ ts0 → s'.tm t = s.tm t := h1
  refine ⟨(m 1 (by decide)).trans h.s1, (m 2 (by decide)).trans h.s2, (m 3 (by decide)).trans h.s3, (m 6 (by decide)).trans h.s6, (m 7 (by decide)).trans h.s7, (m 8 (by decide)).trans h.s8, (m 10 (by decide)).trans h.s10, (m 11 (by decide)).trans h.s11, (m 13 (by decide)).trans h.s13, h2 ((79003, 0), varG g) (by simp [scL]), h2 ((79006, 0), nilRt) (by simp [scL]), h2 ((79008, 0), .var [.row (79033, 0) 3 0 best.length]) (by simp [scL]), h2 ((79033, 0), .row 3 (recRow encQ best)) (by simp [scL]), h2 ((79037, 0), .row 1 (boolRow has)) (by simp [scL]), fun hn => h2 ((79085, 0), .row 1 (intRow order)) (by unfold scL; rw [if_neg hn]; simp)⟩
theorem SB.back {g : Gr} {e t : Int} {best : List Rc} {has don : List Bool} {order : List Int} {s s' : St} (h : SB g e t best has don order s) (h1 : ∀ t ∈ tsB, s'.tm t = s.tm t) (h2 : ∀ p ∈ sbL g best has don order, s'.ob p.1 = some p.2) : SB g e t best has don order s' :=
  ⟨h.toSC.back (fun t ht => h1 t (List.mem_append_right _ ht)) (fun p hp => h2 p (List.mem_cons_of_mem _ hp)), (h1 9 (by decide)).trans h.s9, (h1 12 (by decide)).trans h.s12, h2 ((79035, 0), .row 1 (boolRow don)) (by simp [sbL])⟩
/-- A call in line out of the function itself: its own objects are listed. -/
theorem callI_top {d : Option Nat} {f : FuncId} {xs : Array Operand} {ts' : Array TypeId} {vs : List AV} {s st : St} {l : List Rc} {n : Nat} {Post : AV → List Rc → Nat → Prop} {K : St → Prop} {E F : List Nat} (ts : List Nat) (L : List (Id × Ob)) (hf : enters Try.prog f) (hvs : xs.toList.map st.ev = vs) (hts : ∀ x ∈ xs.toList, ∀ t, x = .tmp t → t ∈ ts)
    (h : InlP f vs l n Post) (hc : s.Calm E F) (q : Keep F s st) (hE1 : E.contains 79051 = true) (hF1 : (hF.all fun d => F.contains d) = true) (ps : PS st l n) (h1 : ∀ t ∈ ts, (st.tm t).free fun id => ¬ calm hE id) (hL : ∀ p ∈ L, st.ob p.1 = some p.2) (hLo : ∀ p ∈ L, AV.frees (fun id => ¬ calm hE id) p.2.avs ∧ calm hF p.1)
    (hK : ∀ s3 v l' n', Keep F s s3 → PS s3 l' n' → (∀ t ∈ ts, s3.tm t = st.tm t) → (∀ p ∈ L, s3.ob p.1 = some p.2) → Post v l' n' → K (s3.put d v)) : CallI Try.prog d (.call ⟨.value (.func f), xs, ts'⟩) st K := by
  subst hvs
  have hFs : ∀ d ∈ hF, d ∈ F := fun d hd => by simpa using List.all_eq_true.1 hF1 d hd
  have hEs : 79051 ∈ E := by simpa using hE1
  have evs : xs.toList.map (st.only ts fun id => calm F id ∨ ((∃ o, (id, o) ∈ L) ∨ ownP id)).ev = xs.toList.map st.ev := by
    refine List.map_congr_left fun x hx => ?_
    cases x with
    | tmp t =>
      show (if t ∈ ts then st.tm t else .bad) = st.tm t
      rw [if_pos (hts _ hx t rfl)]
    | _ => rfl
  have en := entersAt_call (st := st.only ts fun id => calm F id ∨ ((∃ o, (id, o) ∈ L) ∨ ownP id)) (xs := xs) (ts := ts') hf
  rw [evs] at en
  have hcalm : (st.only ts fun id => calm F id ∨ ((∃ o, (id, o) ∈ L) ∨ ownP id)).push.Calm hE hF := by
    have sub : ∀ id, calm E id → calm hE id := fun id hid => ⟨hid.1, hid.2.1, fun hm => hid.2.2 (by simp [hE] at hm; rw [hm]; exact hEs)⟩
    refine ⟨fun t => ?_, fun id o hid ho => ?_⟩
    · simp only [St.push, St.only]
      split
      · split
        · exact h1 _ (by assumption)
        · unfold AV.free; trivial
      · rw [q.gh]
        exact AV.free_mono (fun id hid hcm => hid (sub id hcm)) _ (hc.gh _)
    · rw [push_ob] at ho
      by_cases hp : calm F id
      · rw [only_ob (.inl hp), q.ob id hp] at ho
        exact AV.frees_mono (fun id hid hcm => hid (sub id hcm)) _ (hc.ob id o hp ho)
      · by_cases hq : ∃ o, (id, o) ∈ L
        · obtain ⟨o', ho'⟩ := hq
          rw [only_ob (.inr (.inl ⟨o', ho'⟩)), hL _ ho'] at ho
          cases ho
          exact (hLo _ ho').1
        · simp only [St.only] at ho
          rw [if_neg (by
            rintro (h | h | h)
            · exact hp h
            · exact hq h
            · rcases h with rfl | rfl <;> simp [calm, hF] at hid)] at ho
          cases ho
  refine callI_intro (Weaker.only _ ts _) en (h _ hcalm ⟨by rw [push_ob, only_ob (.inr (.inr (.inl rfl)))]; exact ps.v, by rw [push_ob, only_ob (.inr (.inr (.inr rfl)))]; exact ps.r, ps.le⟩ _ ?_)
  intro v s' l' n' k ps' hp
  obtain ⟨kp, ktm⟩ := k.pop
  refine hK s'.pop0 v l' n' ⟨fun t => ?_, fun id hid => ?_⟩ ⟨ps'.v, ps'.r, ps'.le⟩ (fun t ht => ?_) (fun p hp => ?_) hp
  · rw [kp.gh]
    exact q.gh t
  · rw [kp.ob id (calm_sub hFs hid), only_ob (.inl hid)]
    exact q.ob id hid
  · rw [ktm]
    simp [St.only, ht]
  · rw [kp.ob _ (hLo p hp).2, only_ob (.inr (.inl ⟨p.2, hp⟩))]
    exact hL p hp
/-- The code of impl.shortest$1. -/
def k150 : Code1 :=
 (.seq
 (.region [] false ([]) [
 ⟨some 6,Op.assign (Operand.const (Value.bool false)),none⟩])
 (.seq
 (.region [] false ([]) [
 ⟨some 8,Op.fieldAddr 50 (Operand.tmp 2) 3,none⟩,
 ⟨some 9,Op.load 22 (Operand.tmp 8),none⟩,
 ⟨some 10,Op.move (Operand.tmp 1),none⟩,
 ⟨some 11,Op.indexAddr 22 (Operand.tmp 9) (Operand.tmp 10),none⟩,
 ⟨some 12,Op.load 2 (Operand.tmp 11),none⟩,
 ⟨some 7,Op.assign (Operand.tmp 12),none⟩])
 (.seq
 (.region [] true ([]) [
 ⟨some 13,Op.load 203 (Operand.tmp 3),none⟩,
 ⟨some 14,Op.move (Operand.tmp 7),none⟩,
 ⟨some 15,Op.indexAddr 203 (Operand.tmp 13) (Operand.tmp 14),none⟩,
 ⟨some 16,Op.fieldAddr 206 (Operand.tmp 15) 0,none⟩,
 ⟨some 17,Op.load 2 (Operand.tmp 16),none⟩,
 ⟨some 18,Op.load 203 (Operand.tmp 3),none⟩,
 ⟨some 19,Op.move (Operand.tmp 0),none⟩,
 ⟨some 20,Op.indexAddr 203 (Operand.tmp 18) (Operand.tmp 19),none⟩,
 ⟨some 21,Op.fieldAddr 206 (Operand.tmp 20) 0,none⟩,
 ⟨some 22,Op.load 2 (Operand.tmp 21),none⟩,
 ⟨some 23,Op.fieldAddr 50 (Operand.tmp 2) 4,none⟩,
 ⟨some 24,Op.load 22 (Operand.tmp 23),none⟩,
 ⟨some 25,Op.move (Operand.tmp 1),none⟩,
 ⟨some 26,Op.indexAddr 22 (Operand.tmp 24) (Operand.tmp 25),none⟩,
 ⟨some 27,Op.load 2 (Operand.tmp 26),none⟩,
 ⟨some 28,Op.binOp BinOp.add 2 (Operand.tmp 22) (Operand.tmp 27) 2,none⟩,
 ⟨some 29,Op.binOp BinOp.eql 2 (Operand.tmp 17) (Operand.tmp 28) 2,none⟩,
 ⟨some 30,Op.move (Operand.tmp 29),none⟩,
 ⟨some 31,Op.load 203 (Operand.tmp 3),some (30,true)⟩,
 ⟨some 32,Op.move (Operand.tmp 7),some (30,true)⟩,
 ⟨some 33,Op.indexAddr 203 (Operand.tmp 31) (Operand.tmp 32),some (30,true)⟩,
 ⟨some 34,Op.fieldAddr 206 (Operand.tmp 33) 1,some (30,true)⟩,
 ⟨some 35,Op.load 2 (Operand.tmp 34),some (30,true)⟩,
 ⟨some 36,Op.load 203 (Operand.tmp 3),some (30,true)⟩,
 ⟨some 37,Op.move (Operand.tmp 0),some (30,true)⟩,
 ⟨some 38,Op.indexAddr 203 (Operand.tmp 36) (Operand.tmp 37),some (30,true)⟩,
 ⟨some 39,Op.fieldAddr 206 (Operand.tmp 38) 1,some (30,true)⟩,
 ⟨some 40,Op.load 2 (Operand.tmp 39),some (30,true)⟩,
 ⟨some 41,Op.binOp BinOp.add 2 (Operand.tmp 40) (Operand.const (Value.int IntKind.i64 1)) 2,some (30,true)⟩,
 ⟨some 42,Op.binOp BinOp.eql 2 (Operand.tmp 35) (Operand.tmp 41) 2,some (30,true)⟩,
 ⟨some 43,Op.pick (Operand.tmp 30) (Operand.tmp 42) (Operand.const (Value.bool false)),none⟩,
 ⟨some 6,Op.assign (Operand.tmp 43),none⟩])
 .ret)))
set_option maxHeartbeats 0 in
theorem tight_inl {g : Gr} (h : VG g) {best : List Rc} (lb : best.length = g.edgeOf.length) {x k : Int} (hx : inV g x) (k1 : rd g.first x ≤ k) (k2 : k < rd g.first (x + 1)) (hb : ∀ v, v = x ∨ v = rd g.to k → -1 ≤ (nth best v).a ∧ (nth best v).a ≤ 100000000000 ∧ -1 ≤ (nth best v).b ∧ (nth best v).b ≤ 100000000) (s : St) (hc : s.Calm [] [])
    (o3 : s.ob (79003, 0) = some (varG g)) (o8 : s.ob (79008, 0) = some (.var [.row (79033, 0) 3 0 best.length])) (o33 : s.ob (79033, 0) = some (.row 3 (recRow encQ best))) {R : AV → St → Prop} (hR : ∀ s', Keep [] s s' → R (.t (.v (.bool (decide (Tight g best x k))))) s') :
    Inl Try.prog 150 [.t (.v (.int .i64 x)), .t (.v (.int .i64 k)), .ptr (79003, 0) 0 0, .ptr (79008, 0) 0 0] s R := by
  refine inl_of_wp2 (fn := Try.f150) (k := k150) (fun _ => []) mixed (by kernel_rfl) rfl (by kernel_rfl) (by kernel_rfl) rfl (by simp [Try.f150]) ?_
  generalize hst : s.body [.t (.v (.int .i64 x)), .t (.v (.int .i64 k)), .ptr (79003, 0) 0 0, .ptr (79008, 0) 0 0] = st0
  have q0 : ∀ F, Keep F s st0 := fun F => by rw [← hst]; exact (Keep.refl F s).body _
  have hob : st0.ob = s.ob := by rw [← hst]; rfl
  have t0 : st0.tm 0 = .t (.v (.int .i64 x)) := by rw [← hst]; rfl
  have t1 : st0.tm 1 = .t (.v (.int .i64 k)) := by rw [← hst]; rfl
  have t2 : st0.tm 2 = .ptr (79003, 0) 0 0 := by rw [← hst]; rfl
  have t3 : st0.tm 3 = .ptr (79008, 0) 0 0 := by rw [← hst]; rfl
  clear hst
  unfold k150
  have ac := h.arcOf hx.1 hx.2 k1 k2
  have l3 := h.l3
  have l6 := h.l6
  have l7 := h.l7
  obtain ⟨a0, a1, a2, a3, a4, a5⟩ := ac
  obtain ⟨x0, x1⟩ := hx
  have bx := hb x (.inl rfl)
  have by' := hb (rd g.to k) (.inr rfl)
  unfold varG at o3
  have gx := recRow_getI encQ best x x0 (by omega)
  have gy := recRow_getI encQ best (rd g.to k) a0 (by omega)
  by_cases ha : (nth best (rd g.to k)).a = (nth best x).a + rd g.cost k
  · by_cases hbb : (nth best (rd g.to k)).b = (nth best x).b + 1
    · repeat' (first
     | refine wp2_seq fun K hK => ?_
     | refine M_cons fun K hK => ?_
     | (refine hK _ ?_; clear hK K)
     | refine wp2_region ?_
     | simp (maxSteps := 4000000) (disch := omega) [t0, t1, t2, t3, hob, o3, o8, o33, gx, gy, encQ, ha, hbb])
      all_goals first | omega | (exfalso; simp_all; done) | skip
      refine ⟨.t (.v (.bool true)), by simp [resultA, resA], ?_⟩
      have e : decide (Tight g best x k) = true := by simp [Tight, ha, hbb]
      rw [← e]
      refine hR _ (Keep.bare ?_)
      (repeat' first | exact q0 | exact q0 _ | refine Keep.put ?_ _ _ | refine Keep.setOb ?_ (by first | rfl | simp) _ | refine Keep.kill hc ?_ (by first | rfl | simp) | refine Keep.ren hc ?_ (by first | rfl | simp) | refine Keep.ren1 hc ?_ (by first | rfl | simp) | refine Keep.kill1 hc ?_ (by first | rfl | simp))
    · repeat' (first
     | refine wp2_seq fun K hK => ?_
     | refine M_cons fun K hK => ?_
     | (refine hK _ ?_; clear hK K)
     | refine wp2_region ?_
     | simp (maxSteps := 4000000) (disch := omega) [t0, t1, t2, t3, hob, o3, o8, o33, gx, gy, encQ, ha, hbb])
      all_goals first | omega | (exfalso; simp_all; done) | skip
      refine ⟨.t (.v (.bool false)), by simp [resultA, resA, hbb], ?_⟩
      have e : decide (Tight g best x k) = false := by simp [Tight, ha, hbb]
      rw [← e]
      refine hR _ (Keep.bare ?_)
      (repeat' first | exact q0 | exact q0 _ | refine Keep.put ?_ _ _ | refine Keep.setOb ?_ (by first | rfl | simp) _ | refine Keep.kill hc ?_ (by first | rfl | simp) | refine Keep.ren hc ?_ (by first | rfl | simp) | refine Keep.ren1 hc ?_ (by first | rfl | simp) | refine Keep.kill1 hc ?_ (by first | rfl | simp))
  · repeat' (first
   | refine wp2_seq fun K hK => ?_
   | refine M_cons fun K hK => ?_
   | (refine hK _ ?_; clear hK K)
   | refine wp2_region ?_
   | (refine guard1_or (fun c => ?_) (fun c => ?_) <;> (have cc := c) <;> (try simp [-List.length_eq_zero_iff] at cc) <;> (try simp (disch := omega) [t0, t1, t2, t3, hob, o3, o8, o33, gx, gy, encQ, ha, c]))
   | simp (maxSteps := 4000000) (disch := omega) [t0, t1, t2, t3, hob, o3, o8, o33, gx, gy, encQ, ha])
    all_goals first | omega | (exfalso; simp_all; done) | skip
    refine ⟨.t (.v (.bool false)), by simp [resultA, resA], ?_⟩
    have e : decide (Tight g best x k) = false := by simp [Tight, ha]
    rw [← e]
    refine hR _ (Keep.bare ?_)
    (repeat' first | exact q0 | exact q0 _ | refine Keep.put ?_ _ _ | refine Keep.setOb ?_ (by first | rfl | simp) _ | refine Keep.kill hc ?_ (by first | rfl | simp) | refine Keep.ren hc ?_ (by first | rfl | simp) | refine Keep.ren1 hc ?_ (by first | rfl | simp) | refine Keep.kill1 hc ?_ (by first | rfl | simp))
end Cal

/- impl.shortest: the arcs' loop. -/
set_option linter.unusedSimpArgs false
set_option linter.unusedVariables false
namespace Cal
open Go Go.Proofs
set_option maxRecDepth 100000
/-- The body of a loop. -/
def k88_l1 : Code1 :=
 (.seq
 (.seq
 (.region [] false ([]) [
 ⟨some 92,Op.move (Operand.tmp 15),none⟩,
 ⟨some 93,Op.fieldAddr 50 (Operand.tmp 3) 2,none⟩,
 ⟨some 94,Op.load 22 (Operand.tmp 93),none⟩,
 ⟨some 95,Op.fieldAddr 206 (Operand.tmp 14) 2,none⟩,
 ⟨some 96,Op.load 2 (Operand.tmp 95),none⟩,
 ⟨some 97,Op.binOp BinOp.add 2 (Operand.tmp 96) (Operand.const (Value.int IntKind.i64 1)) 2,none⟩,
 ⟨some 98,Op.indexAddr 22 (Operand.tmp 94) (Operand.tmp 97),none⟩,
 ⟨some 99,Op.load 2 (Operand.tmp 98),none⟩,
 ⟨some 100,Op.binOp BinOp.lss 2 (Operand.tmp 92) (Operand.tmp 99) 2,none⟩])
 (.cond (Operand.tmp 100)
 .skip
 (.exit 2)))
 (.seq
 (.block 3
 (.seq
 (.region [16] true ([]) [
 ⟨some 103,Op.fieldAddr 206 (Operand.tmp 14) 0,none⟩,
 ⟨some 104,Op.load 2 (Operand.tmp 103),none⟩,
 ⟨some 105,Op.fieldAddr 50 (Operand.tmp 3) 4,none⟩,
 ⟨some 106,Op.load 22 (Operand.tmp 105),none⟩,
 ⟨some 107,Op.move (Operand.tmp 15),none⟩,
 ⟨some 108,Op.indexAddr 22 (Operand.tmp 106) (Operand.tmp 107),none⟩,
 ⟨some 109,Op.load 2 (Operand.tmp 108),none⟩,
 ⟨some 110,Op.binOp BinOp.add 2 (Operand.tmp 104) (Operand.tmp 109) 2,none⟩,
 ⟨some 111,Op.fieldAddr 206 (Operand.tmp 14) 1,none⟩,
 ⟨some 112,Op.load 2 (Operand.tmp 111),none⟩,
 ⟨some 113,Op.binOp BinOp.add 2 (Operand.tmp 112) (Operand.const (Value.int IntKind.i64 1)) 2,none⟩,
 ⟨some 114,Op.fieldAddr 50 (Operand.tmp 3) 3,none⟩,
 ⟨some 115,Op.load 22 (Operand.tmp 114),none⟩,
 ⟨some 116,Op.move (Operand.tmp 15),none⟩,
 ⟨some 117,Op.indexAddr 22 (Operand.tmp 115) (Operand.tmp 116),none⟩,
 ⟨some 118,Op.load 2 (Operand.tmp 117),none⟩,
 ⟨some 119,Op.build 206 #[(0,Operand.tmp 110),(1,Operand.tmp 113),(2,Operand.tmp 118)],none⟩,
 ⟨some 16,Op.alloc 206,none⟩,
 ⟨none,Op.store 206 (Operand.tmp 16) (Operand.tmp 119),none⟩])
 (.seq
 (.region [17] false ([]) [
 ⟨some 120,Op.load 203 (Operand.tmp 8),none⟩,
 ⟨some 121,Op.fieldAddr 206 (Operand.tmp 16) 2,none⟩,
 ⟨some 122,Op.load 2 (Operand.tmp 121),none⟩,
 ⟨some 123,Op.indexAddr 203 (Operand.tmp 120) (Operand.tmp 122),none⟩,
 ⟨some 124,Op.load 206 (Operand.tmp 123),none⟩,
 ⟨some 17,Op.alloc 206,none⟩,
 ⟨none,Op.store 206 (Operand.tmp 17) (Operand.tmp 124),none⟩])
 (.seq
 (.region [] false ([]) [
 ⟨some 125,Op.move (Operand.tmp 10),none⟩,
 ⟨some 126,Op.fieldAddr 206 (Operand.tmp 16) 2,none⟩,
 ⟨some 127,Op.load 2 (Operand.tmp 126),none⟩,
 ⟨some 128,Op.indexAddr 59 (Operand.tmp 125) (Operand.tmp 127),none⟩,
 ⟨some 129,Op.load 4 (Operand.tmp 128),none⟩,
 ⟨some 130,Op.unOp UnOp.not 4 (Operand.tmp 129),none⟩,
 ⟨some 131,Op.move (Operand.tmp 130),none⟩,
 ⟨some 132,Op.fieldAddr 206 (Operand.tmp 16) 0,some (131,false)⟩,
 ⟨some 133,Op.load 2 (Operand.tmp 132),some (131,false)⟩,
 ⟨some 134,Op.fieldAddr 206 (Operand.tmp 17) 0,some (131,false)⟩,
 ⟨some 135,Op.load 2 (Operand.tmp 134),some (131,false)⟩,
 ⟨some 136,Op.binOp BinOp.lss 2 (Operand.tmp 133) (Operand.tmp 135) 2,some (131,false)⟩,
 ⟨some 137,Op.pick (Operand.tmp 131) (Operand.const (Value.bool true)) (Operand.tmp 136),none⟩,
 ⟨some 138,Op.move (Operand.tmp 137),none⟩,
 ⟨some 139,Op.fieldAddr 206 (Operand.tmp 16) 0,some (138,false)⟩,
 ⟨some 140,Op.load 2 (Operand.tmp 139),some (138,false)⟩,
 ⟨some 141,Op.fieldAddr 206 (Operand.tmp 17) 0,some (138,false)⟩,
 ⟨some 142,Op.load 2 (Operand.tmp 141),some (138,false)⟩,
 ⟨some 143,Op.binOp BinOp.eql 2 (Operand.tmp 140) (Operand.tmp 142) 2,some (138,false)⟩,
 ⟨some 144,Op.move (Operand.tmp 143),some (138,false)⟩,
 ⟨some 145,Op.fieldAddr 206 (Operand.tmp 16) 1,some (144,true)⟩,
 ⟨some 146,Op.load 2 (Operand.tmp 145),some (144,true)⟩,
 ⟨some 147,Op.fieldAddr 206 (Operand.tmp 17) 1,some (144,true)⟩,
 ⟨some 148,Op.load 2 (Operand.tmp 147),some (144,true)⟩,
 ⟨some 149,Op.binOp BinOp.lss 2 (Operand.tmp 146) (Operand.tmp 148) 2,some (144,true)⟩,
 ⟨some 150,Op.pick (Operand.tmp 144) (Operand.tmp 149) (Operand.const (Value.bool false)),some (138,false)⟩,
 ⟨some 151,Op.pick (Operand.tmp 138) (Operand.const (Value.bool true)) (Operand.tmp 150),none⟩])
 (.cond (Operand.tmp 151)
 (.seq
 (.region [] false ([]) [
 ⟨some 152,Op.move (Operand.tmp 10),none⟩,
 ⟨some 153,Op.fieldAddr 206 (Operand.tmp 16) 2,none⟩,
 ⟨some 154,Op.load 2 (Operand.tmp 153),none⟩,
 ⟨some 155,Op.indexAddr 59 (Operand.tmp 152) (Operand.tmp 154),none⟩,
 ⟨none,Op.store 4 (Operand.tmp 155) (Operand.const (Value.bool true)),none⟩])
 (.seq
 (.region [] false ([]) [
 ⟨some 156,Op.load 203 (Operand.tmp 8),none⟩,
 ⟨some 157,Op.fieldAddr 206 (Operand.tmp 16) 2,none⟩,
 ⟨some 158,Op.load 2 (Operand.tmp 157),none⟩,
 ⟨some 159,Op.load 206 (Operand.tmp 16),none⟩,
 ⟨some 160,Op.indexAddr 203 (Operand.tmp 156) (Operand.tmp 158),none⟩,
 ⟨none,Op.store 206 (Operand.tmp 160) (Operand.tmp 159),none⟩])
 (.region [165] false ([]) [
 ⟨some 161,Op.move (Operand.tmp 12),none⟩,
 ⟨some 162,Op.makeInterface 204 (Operand.tmp 161),none⟩,
 ⟨some 163,Op.load 206 (Operand.tmp 16),none⟩,
 ⟨some 164,Op.makeInterface 206 (Operand.tmp 163),none⟩,
 ⟨some 165,Op.call {callee:=Callee.value (Operand.func 149),args:=#[Operand.tmp 162,Operand.tmp 164],argTypes:=#[234,20]},none⟩])))
 .skip)))))
 (.region [] false ([]) [
 ⟨some 101,Op.move (Operand.tmp 15),none⟩,
 ⟨some 102,Op.binOp BinOp.add 2 (Operand.tmp 101) (Operand.const (Value.int IntKind.i64 1)) 2,none⟩,
 ⟨some 15,Op.assign (Operand.tmp 102),none⟩])))
/-- The body of a loop. -/
def k88_l0 : Code1 :=
 (.seq
 (.seq
 (.region [66] false ([]) [
 ⟨some 63,Op.move (Operand.tmp 12),none⟩,
 ⟨some 64,Op.nilCheck (Operand.tmp 63),none⟩,
 ⟨some 65,Op.load 207 (Operand.tmp 64),none⟩,
 ⟨some 66,Op.call {callee:=Callee.value (Operand.func 147),args:=#[Operand.tmp 65],argTypes:=#[204]},none⟩,
 ⟨some 67,Op.binOp BinOp.gtr 3 (Operand.tmp 66) (Operand.const (Value.int IntKind.i64 0)) 3,none⟩])
 (.cond (Operand.tmp 67)
 .skip
 (.exit 0)))
 (.block 1
 (.seq
 (.region [70,14] false ([]) [
 ⟨some 68,Op.move (Operand.tmp 12),none⟩,
 ⟨some 69,Op.makeInterface 204 (Operand.tmp 68),none⟩,
 ⟨some 70,Op.call {callee:=Callee.value (Operand.func 148),args:=#[Operand.tmp 69],argTypes:=#[234]},none⟩,
 ⟨some 71,Op.typeAssert (Operand.tmp 70) 20 206 false,none⟩,
 ⟨some 14,Op.alloc 206,none⟩,
 ⟨none,Op.store 206 (Operand.tmp 14) (Operand.tmp 71),none⟩])
 (.seq
 (.seq
 (.region [] false ([]) [
 ⟨some 72,Op.move (Operand.tmp 9),none⟩,
 ⟨some 73,Op.fieldAddr 206 (Operand.tmp 14) 2,none⟩,
 ⟨some 74,Op.load 2 (Operand.tmp 73),none⟩,
 ⟨some 75,Op.indexAddr 59 (Operand.tmp 72) (Operand.tmp 74),none⟩,
 ⟨some 76,Op.load 4 (Operand.tmp 75),none⟩])
 (.cond (Operand.tmp 76)
 (.exit 1)
 .skip))
 (.seq
 (.region [] false ([]) [
 ⟨some 77,Op.move (Operand.tmp 9),none⟩,
 ⟨some 78,Op.fieldAddr 206 (Operand.tmp 14) 2,none⟩,
 ⟨some 79,Op.load 2 (Operand.tmp 78),none⟩,
 ⟨some 80,Op.indexAddr 59 (Operand.tmp 77) (Operand.tmp 79),none⟩,
 ⟨none,Op.store 4 (Operand.tmp 80) (Operand.const (Value.bool true)),none⟩])
 (.seq
 (.region [84,85] false ([]) [
 ⟨some 81,Op.move (Operand.tmp 13),none⟩,
 ⟨some 82,Op.fieldAddr 206 (Operand.tmp 14) 2,none⟩,
 ⟨some 83,Op.load 2 (Operand.tmp 82),none⟩,
 ⟨some 84,Op.buildSlice 22 1 #[(0,Operand.tmp 83)],none⟩,
 ⟨some 85,Op.call {callee:=Callee.builtin Builtin.append,args:=#[Operand.tmp 81,Operand.tmp 84],argTypes:=#[22,22]},none⟩,
 ⟨some 13,Op.assign (Operand.tmp 85),none⟩])
 (.seq
 (.region [] false ([]) [
 ⟨some 86,Op.fieldAddr 50 (Operand.tmp 3) 2,none⟩,
 ⟨some 87,Op.load 22 (Operand.tmp 86),none⟩,
 ⟨some 88,Op.fieldAddr 206 (Operand.tmp 14) 2,none⟩,
 ⟨some 89,Op.load 2 (Operand.tmp 88),none⟩,
 ⟨some 90,Op.indexAddr 22 (Operand.tmp 87) (Operand.tmp 89),none⟩,
 ⟨some 91,Op.load 2 (Operand.tmp 90),none⟩,
 ⟨some 15,Op.assign (Operand.tmp 91),none⟩])
 (.block 2
 (.loop k88_l1)))))))))
/-- The body of a loop. -/
def k88_l2 : Code1 :=
 (.seq
 (.region [] false ([]) [
 ⟨some 171,Op.binOp BinOp.lss 3 (Operand.tmp 170) (Operand.tmp 169) 3,none⟩])
 (.seq
 (.cond (Operand.tmp 171)
 .skip
 (.exit 4))
 (.seq
 (.block 5
 (.seq
 (.region [] false ([]) [
 ⟨some 172,Op.move (Operand.tmp 170),none⟩,
 ⟨some 19,Op.assign (Operand.tmp 172),none⟩])
 (.seq
 (.seq
 (.region [] false ([]) [
 ⟨some 173,Op.fieldAddr 50 (Operand.tmp 3) 0,none⟩,
 ⟨some 174,Op.load 22 (Operand.tmp 173),none⟩,
 ⟨some 175,Op.move (Operand.tmp 19),none⟩,
 ⟨some 176,Op.indexAddr 22 (Operand.tmp 174) (Operand.tmp 175),none⟩,
 ⟨some 177,Op.load 2 (Operand.tmp 176),none⟩,
 ⟨some 178,Op.move (Operand.tmp 2),none⟩,
 ⟨some 179,Op.binOp BinOp.neq 2 (Operand.tmp 177) (Operand.tmp 178) 2,none⟩,
 ⟨some 180,Op.move (Operand.tmp 179),none⟩,
 ⟨some 181,Op.move (Operand.tmp 10),some (180,false)⟩,
 ⟨some 182,Op.move (Operand.tmp 19),some (180,false)⟩,
 ⟨some 183,Op.indexAddr 59 (Operand.tmp 181) (Operand.tmp 182),some (180,false)⟩,
 ⟨some 184,Op.load 4 (Operand.tmp 183),some (180,false)⟩,
 ⟨some 185,Op.unOp UnOp.not 4 (Operand.tmp 184),some (180,false)⟩,
 ⟨some 186,Op.pick (Operand.tmp 180) (Operand.const (Value.bool true)) (Operand.tmp 185),none⟩])
 (.cond (Operand.tmp 186)
 (.exit 5)
 .skip))
 (.seq
 (.region [20] false ([]) [
 ⟨some 187,Op.load 203 (Operand.tmp 8),none⟩,
 ⟨some 188,Op.move (Operand.tmp 19),none⟩,
 ⟨some 189,Op.indexAddr 203 (Operand.tmp 187) (Operand.tmp 188),none⟩,
 ⟨some 190,Op.load 206 (Operand.tmp 189),none⟩,
 ⟨some 20,Op.alloc 206,none⟩,
 ⟨none,Op.store 206 (Operand.tmp 20) (Operand.tmp 190),none⟩])
 (.seq
 (.region [] false ([]) [
 ⟨some 191,Op.fieldAddr 206 (Operand.tmp 18) 0,none⟩,
 ⟨some 192,Op.load 2 (Operand.tmp 191),none⟩,
 ⟨some 193,Op.binOp BinOp.lss 2 (Operand.tmp 192) (Operand.const (Value.int IntKind.i64 0)) 2,none⟩,
 ⟨some 194,Op.move (Operand.tmp 193),none⟩,
 ⟨some 195,Op.fieldAddr 206 (Operand.tmp 20) 0,some (194,false)⟩,
 ⟨some 196,Op.load 2 (Operand.tmp 195),some (194,false)⟩,
 ⟨some 197,Op.fieldAddr 206 (Operand.tmp 18) 0,some (194,false)⟩,
 ⟨some 198,Op.load 2 (Operand.tmp 197),some (194,false)⟩,
 ⟨some 199,Op.binOp BinOp.lss 2 (Operand.tmp 196) (Operand.tmp 198) 2,some (194,false)⟩,
 ⟨some 200,Op.pick (Operand.tmp 194) (Operand.const (Value.bool true)) (Operand.tmp 199),none⟩,
 ⟨some 201,Op.move (Operand.tmp 200),none⟩,
 ⟨some 202,Op.fieldAddr 206 (Operand.tmp 20) 0,some (201,false)⟩,
 ⟨some 203,Op.load 2 (Operand.tmp 202),some (201,false)⟩,
 ⟨some 204,Op.fieldAddr 206 (Operand.tmp 18) 0,some (201,false)⟩,
 ⟨some 205,Op.load 2 (Operand.tmp 204),some (201,false)⟩,
 ⟨some 206,Op.binOp BinOp.eql 2 (Operand.tmp 203) (Operand.tmp 205) 2,some (201,false)⟩,
 ⟨some 207,Op.move (Operand.tmp 206),some (201,false)⟩,
 ⟨some 208,Op.fieldAddr 206 (Operand.tmp 20) 1,some (207,true)⟩,
 ⟨some 209,Op.load 2 (Operand.tmp 208),some (207,true)⟩,
 ⟨some 210,Op.fieldAddr 206 (Operand.tmp 18) 1,some (207,true)⟩,
 ⟨some 211,Op.load 2 (Operand.tmp 210),some (207,true)⟩,
 ⟨some 212,Op.binOp BinOp.lss 2 (Operand.tmp 209) (Operand.tmp 211) 2,some (207,true)⟩,
 ⟨some 213,Op.pick (Operand.tmp 207) (Operand.tmp 212) (Operand.const (Value.bool false)),some (201,false)⟩,
 ⟨some 214,Op.pick (Operand.tmp 201) (Operand.const (Value.bool true)) (Operand.tmp 213),none⟩])
 (.cond (Operand.tmp 214)
 (.region [] false ([]) [
 ⟨some 215,Op.load 206 (Operand.tmp 20),none⟩,
 ⟨none,Op.store 206 (Operand.tmp 18) (Operand.tmp 215),none⟩])
 .skip))))))
 (.region [] false ([]) [
 ⟨some 216,Op.binOp BinOp.add 3 (Operand.tmp 170) (Operand.const (Value.int IntKind.i64 1)) 3,none⟩,
 ⟨some 170,Op.move (Operand.tmp 216),none⟩]))))
/-- The body of a loop. -/
def k88_l4 : Code1 :=
 (.seq
 (.seq
 (.region [] false ([]) [
 ⟨some 270,Op.move (Operand.tmp 25),none⟩,
 ⟨some 271,Op.fieldAddr 50 (Operand.tmp 3) 2,none⟩,
 ⟨some 272,Op.load 22 (Operand.tmp 271),none⟩,
 ⟨some 273,Op.move (Operand.tmp 24),none⟩,
 ⟨some 274,Op.binOp BinOp.add 2 (Operand.tmp 273) (Operand.const (Value.int IntKind.i64 1)) 2,none⟩,
 ⟨some 275,Op.indexAddr 22 (Operand.tmp 272) (Operand.tmp 274),none⟩,
 ⟨some 276,Op.load 2 (Operand.tmp 275),none⟩,
 ⟨some 277,Op.binOp BinOp.lss 2 (Operand.tmp 270) (Operand.tmp 276) 2,none⟩])
 (.cond (Operand.tmp 277)
 .skip
 (.exit 8)))
 (.seq
 (.block 9
 (.seq
 (.region [283] false ([]) [
 ⟨some 280,Op.move (Operand.tmp 22),none⟩,
 ⟨some 281,Op.move (Operand.tmp 24),none⟩,
 ⟨some 282,Op.move (Operand.tmp 25),none⟩,
 ⟨some 283,Op.call {callee:=Callee.value (Operand.tmp 280),args:=#[Operand.tmp 281,Operand.tmp 282],argTypes:=#[2,2]},none⟩,
 ⟨some 284,Op.move (Operand.tmp 283),none⟩,
 ⟨some 285,Op.move (Operand.tmp 21),some (284,true)⟩,
 ⟨some 286,Op.fieldAddr 50 (Operand.tmp 3) 3,some (284,true)⟩,
 ⟨some 287,Op.load 22 (Operand.tmp 286),some (284,true)⟩,
 ⟨some 288,Op.move (Operand.tmp 25),some (284,true)⟩,
 ⟨some 289,Op.indexAddr 22 (Operand.tmp 287) (Operand.tmp 288),some (284,true)⟩,
 ⟨some 290,Op.load 2 (Operand.tmp 289),some (284,true)⟩,
 ⟨some 291,Op.indexAddr 59 (Operand.tmp 285) (Operand.tmp 290),some (284,true)⟩,
 ⟨some 292,Op.load 4 (Operand.tmp 291),some (284,true)⟩,
 ⟨some 293,Op.pick (Operand.tmp 284) (Operand.tmp 292) (Operand.const (Value.bool false)),none⟩])
 (.cond (Operand.tmp 293)
 (.region [] false ([]) [
 ⟨some 294,Op.move (Operand.tmp 21),none⟩,
 ⟨some 295,Op.move (Operand.tmp 24),none⟩,
 ⟨some 296,Op.indexAddr 59 (Operand.tmp 294) (Operand.tmp 295),none⟩,
 ⟨none,Op.store 4 (Operand.tmp 296) (Operand.const (Value.bool true)),none⟩])
 .skip)))
 (.region [] false ([]) [
 ⟨some 278,Op.move (Operand.tmp 25),none⟩,
 ⟨some 279,Op.binOp BinOp.add 2 (Operand.tmp 278) (Operand.const (Value.int IntKind.i64 1)) 2,none⟩,
 ⟨some 25,Op.assign (Operand.tmp 279),none⟩])))
/-- The body of a loop. -/
def k88_l3 : Code1 :=
 (.seq
 (.seq
 (.region [] false ([]) [
 ⟨some 227,Op.move (Operand.tmp 23),none⟩,
 ⟨some 228,Op.binOp BinOp.geq 3 (Operand.tmp 227) (Operand.const (Value.int IntKind.i64 0)) 3,none⟩])
 (.cond (Operand.tmp 228)
 .skip
 (.exit 6)))
 (.seq
 (.block 7
 (.seq
 (.region [] false ([]) [
 ⟨some 231,Op.move (Operand.tmp 13),none⟩,
 ⟨some 232,Op.move (Operand.tmp 23),none⟩,
 ⟨some 233,Op.indexAddr 22 (Operand.tmp 231) (Operand.tmp 232),none⟩,
 ⟨some 234,Op.load 2 (Operand.tmp 233),none⟩,
 ⟨some 24,Op.assign (Operand.tmp 234),none⟩])
 (.seq
 (.seq
 (.region [] true ([]) [
 ⟨some 235,Op.fieldAddr 50 (Operand.tmp 3) 0,none⟩,
 ⟨some 236,Op.load 22 (Operand.tmp 235),none⟩,
 ⟨some 237,Op.move (Operand.tmp 24),none⟩,
 ⟨some 238,Op.indexAddr 22 (Operand.tmp 236) (Operand.tmp 237),none⟩,
 ⟨some 239,Op.load 2 (Operand.tmp 238),none⟩,
 ⟨some 240,Op.move (Operand.tmp 2),none⟩,
 ⟨some 241,Op.binOp BinOp.eql 2 (Operand.tmp 239) (Operand.tmp 240) 2,none⟩,
 ⟨some 242,Op.move (Operand.tmp 241),none⟩,
 ⟨some 243,Op.load 203 (Operand.tmp 8),some (242,true)⟩,
 ⟨some 244,Op.move (Operand.tmp 24),some (242,true)⟩,
 ⟨some 245,Op.indexAddr 203 (Operand.tmp 243) (Operand.tmp 244),some (242,true)⟩,
 ⟨some 246,Op.fieldAddr 206 (Operand.tmp 245) 0,some (242,true)⟩,
 ⟨some 247,Op.load 2 (Operand.tmp 246),some (242,true)⟩,
 ⟨some 248,Op.fieldAddr 206 (Operand.tmp 18) 0,some (242,true)⟩,
 ⟨some 249,Op.load 2 (Operand.tmp 248),some (242,true)⟩,
 ⟨some 250,Op.binOp BinOp.eql 2 (Operand.tmp 247) (Operand.tmp 249) 2,some (242,true)⟩,
 ⟨some 251,Op.pick (Operand.tmp 242) (Operand.tmp 250) (Operand.const (Value.bool false)),none⟩,
 ⟨some 252,Op.move (Operand.tmp 251),none⟩,
 ⟨some 253,Op.load 203 (Operand.tmp 8),some (252,true)⟩,
 ⟨some 254,Op.move (Operand.tmp 24),some (252,true)⟩,
 ⟨some 255,Op.indexAddr 203 (Operand.tmp 253) (Operand.tmp 254),some (252,true)⟩,
 ⟨some 256,Op.fieldAddr 206 (Operand.tmp 255) 1,some (252,true)⟩,
 ⟨some 257,Op.load 2 (Operand.tmp 256),some (252,true)⟩,
 ⟨some 258,Op.fieldAddr 206 (Operand.tmp 18) 1,some (252,true)⟩,
 ⟨some 259,Op.load 2 (Operand.tmp 258),some (252,true)⟩,
 ⟨some 260,Op.binOp BinOp.eql 2 (Operand.tmp 257) (Operand.tmp 259) 2,some (252,true)⟩,
 ⟨some 261,Op.pick (Operand.tmp 252) (Operand.tmp 260) (Operand.const (Value.bool false)),none⟩])
 (.cond (Operand.tmp 261)
 (.region [] false ([]) [
 ⟨some 262,Op.move (Operand.tmp 21),none⟩,
 ⟨some 263,Op.move (Operand.tmp 24),none⟩,
 ⟨some 264,Op.indexAddr 59 (Operand.tmp 262) (Operand.tmp 263),none⟩,
 ⟨none,Op.store 4 (Operand.tmp 264) (Operand.const (Value.bool true)),none⟩])
 .skip))
 (.seq
 (.region [] false ([]) [
 ⟨some 265,Op.fieldAddr 50 (Operand.tmp 3) 2,none⟩,
 ⟨some 266,Op.load 22 (Operand.tmp 265),none⟩,
 ⟨some 267,Op.move (Operand.tmp 24),none⟩,
 ⟨some 268,Op.indexAddr 22 (Operand.tmp 266) (Operand.tmp 267),none⟩,
 ⟨some 269,Op.load 2 (Operand.tmp 268),none⟩,
 ⟨some 25,Op.assign (Operand.tmp 269),none⟩])
 (.block 8
 (.loop k88_l4))))))
 (.region [] false ([]) [
 ⟨some 229,Op.move (Operand.tmp 23),none⟩,
 ⟨some 230,Op.binOp BinOp.sub 3 (Operand.tmp 229) (Operand.const (Value.int IntKind.i64 1)) 3,none⟩,
 ⟨some 23,Op.assign (Operand.tmp 230),none⟩])))
/-- The body of a loop. -/
def k88_l6 : Code1 :=
 (.seq
 (.seq
 (.region [] false ([]) [
 ⟨some 316,Op.move (Operand.tmp 28),none⟩,
 ⟨some 317,Op.fieldAddr 50 (Operand.tmp 3) 2,none⟩,
 ⟨some 318,Op.load 22 (Operand.tmp 317),none⟩,
 ⟨some 319,Op.move (Operand.tmp 27),none⟩,
 ⟨some 320,Op.binOp BinOp.add 2 (Operand.tmp 319) (Operand.const (Value.int IntKind.i64 1)) 2,none⟩,
 ⟨some 321,Op.indexAddr 22 (Operand.tmp 318) (Operand.tmp 320),none⟩,
 ⟨some 322,Op.load 2 (Operand.tmp 321),none⟩,
 ⟨some 323,Op.binOp BinOp.lss 2 (Operand.tmp 316) (Operand.tmp 322) 2,none⟩])
 (.cond (Operand.tmp 323)
 .skip
 (.exit 12)))
 (.seq
 (.block 13
 (.seq
 (.region [329] false ([]) [
 ⟨some 326,Op.move (Operand.tmp 22),none⟩,
 ⟨some 327,Op.move (Operand.tmp 27),none⟩,
 ⟨some 328,Op.move (Operand.tmp 28),none⟩,
 ⟨some 329,Op.call {callee:=Callee.value (Operand.tmp 326),args:=#[Operand.tmp 327,Operand.tmp 328],argTypes:=#[2,2]},none⟩,
 ⟨some 330,Op.move (Operand.tmp 329),none⟩,
 ⟨some 331,Op.move (Operand.tmp 21),some (330,true)⟩,
 ⟨some 332,Op.fieldAddr 50 (Operand.tmp 3) 3,some (330,true)⟩,
 ⟨some 333,Op.load 22 (Operand.tmp 332),some (330,true)⟩,
 ⟨some 334,Op.move (Operand.tmp 28),some (330,true)⟩,
 ⟨some 335,Op.indexAddr 22 (Operand.tmp 333) (Operand.tmp 334),some (330,true)⟩,
 ⟨some 336,Op.load 2 (Operand.tmp 335),some (330,true)⟩,
 ⟨some 337,Op.indexAddr 59 (Operand.tmp 331) (Operand.tmp 336),some (330,true)⟩,
 ⟨some 338,Op.load 4 (Operand.tmp 337),some (330,true)⟩,
 ⟨some 339,Op.pick (Operand.tmp 330) (Operand.tmp 338) (Operand.const (Value.bool false)),none⟩])
 (.cond (Operand.tmp 339)
 (.seq
 (.region [] false ([]) [
 ⟨some 340,Op.fieldAddr 50 (Operand.tmp 3) 3,none⟩,
 ⟨some 341,Op.load 22 (Operand.tmp 340),none⟩,
 ⟨some 342,Op.move (Operand.tmp 28),none⟩,
 ⟨some 343,Op.indexAddr 22 (Operand.tmp 341) (Operand.tmp 342),none⟩,
 ⟨some 344,Op.load 2 (Operand.tmp 343),none⟩,
 ⟨some 27,Op.assign (Operand.tmp 344),none⟩])
 (.seq
 (.region [352,353] true ([353]) [
 ⟨some 345,Op.fieldAddr 48 (Operand.tmp 26) 2,none⟩,
 ⟨some 346,Op.load 22 (Operand.tmp 345),none⟩,
 ⟨some 347,Op.fieldAddr 50 (Operand.tmp 3) 0,none⟩,
 ⟨some 348,Op.load 22 (Operand.tmp 347),none⟩,
 ⟨some 349,Op.move (Operand.tmp 27),none⟩,
 ⟨some 350,Op.indexAddr 22 (Operand.tmp 348) (Operand.tmp 349),none⟩,
 ⟨some 351,Op.load 2 (Operand.tmp 350),none⟩,
 ⟨some 352,Op.buildSlice 22 1 #[(0,Operand.tmp 351)],none⟩,
 ⟨some 353,Op.call {callee:=Callee.builtin Builtin.append,args:=#[Operand.tmp 346,Operand.tmp 352],argTypes:=#[22,22]},none⟩,
 ⟨some 354,Op.fieldAddr 48 (Operand.tmp 26) 2,none⟩,
 ⟨none,Op.store 22 (Operand.tmp 354) (Operand.tmp 353),none⟩])
 (.exit 12)))
 .skip)))
 (.region [] false ([]) [
 ⟨some 324,Op.move (Operand.tmp 28),none⟩,
 ⟨some 325,Op.binOp BinOp.add 2 (Operand.tmp 324) (Operand.const (Value.int IntKind.i64 1)) 2,none⟩,
 ⟨some 28,Op.assign (Operand.tmp 325),none⟩])))
/-- The body of a loop. -/
def k88_l5 : Code1 :=
 (.seq
 (.seq
 (.region [] true ([]) [
 ⟨some 303,Op.load 203 (Operand.tmp 8),none⟩,
 ⟨some 304,Op.move (Operand.tmp 27),none⟩,
 ⟨some 305,Op.indexAddr 203 (Operand.tmp 303) (Operand.tmp 304),none⟩,
 ⟨some 306,Op.fieldAddr 206 (Operand.tmp 305) 1,none⟩,
 ⟨some 307,Op.load 2 (Operand.tmp 306),none⟩,
 ⟨some 308,Op.fieldAddr 206 (Operand.tmp 18) 1,none⟩,
 ⟨some 309,Op.load 2 (Operand.tmp 308),none⟩,
 ⟨some 310,Op.binOp BinOp.lss 2 (Operand.tmp 307) (Operand.tmp 309) 2,none⟩])
 (.cond (Operand.tmp 310)
 .skip
 (.exit 10)))
 (.block 11
 (.seq
 (.region [] false ([]) [
 ⟨some 311,Op.fieldAddr 50 (Operand.tmp 3) 2,none⟩,
 ⟨some 312,Op.load 22 (Operand.tmp 311),none⟩,
 ⟨some 313,Op.move (Operand.tmp 27),none⟩,
 ⟨some 314,Op.indexAddr 22 (Operand.tmp 312) (Operand.tmp 313),none⟩,
 ⟨some 315,Op.load 2 (Operand.tmp 314),none⟩,
 ⟨some 28,Op.assign (Operand.tmp 315),none⟩])
 (.block 12
 (.loop k88_l6)))))
/-- The code of impl.shortest, its loops' bodies named. -/
def k88 : Code1 :=
 (.seq
 (.region [3,6] false ([]) [
 ⟨some 3,Op.box 50 (Operand.tmp 0),none⟩,
 ⟨some 6,Op.alloc 48,none⟩])
 (.seq
 (.region [] false ([]) [
 ⟨some 29,Op.fieldAddr 50 (Operand.tmp 3) 0,none⟩,
 ⟨some 30,Op.load 22 (Operand.tmp 29),none⟩,
 ⟨some 31,Op.call {callee:=Callee.builtin Builtin.len,args:=#[Operand.tmp 30],argTypes:=#[22]},none⟩,
 ⟨some 7,Op.assign (Operand.tmp 31),none⟩])
 (.seq
 (.region [33,8] false ([]) [
 ⟨some 32,Op.move (Operand.tmp 7),none⟩,
 ⟨some 33,Op.makeSlice 203 (Operand.tmp 32) (Operand.tmp 32),none⟩,
 ⟨some 8,Op.alloc 203,none⟩,
 ⟨none,Op.store 203 (Operand.tmp 8) (Operand.tmp 33),none⟩])
 (.seq
 (.region [35] false ([]) [
 ⟨some 34,Op.move (Operand.tmp 7),none⟩,
 ⟨some 35,Op.makeSlice 59 (Operand.tmp 34) (Operand.tmp 34),none⟩,
 ⟨some 9,Op.assign (Operand.tmp 35),none⟩])
 (.seq
 (.region [37] false ([]) [
 ⟨some 36,Op.move (Operand.tmp 7),none⟩,
 ⟨some 37,Op.makeSlice 59 (Operand.tmp 36) (Operand.tmp 36),none⟩,
 ⟨some 10,Op.assign (Operand.tmp 37),none⟩])
 (.seq
 (.region [] false ([]) [
 ⟨some 38,Op.fieldAddr 50 (Operand.tmp 3) 5,none⟩,
 ⟨some 39,Op.load 22 (Operand.tmp 38),none⟩,
 ⟨some 40,Op.move (Operand.tmp 1),none⟩,
 ⟨some 41,Op.indexAddr 22 (Operand.tmp 39) (Operand.tmp 40),none⟩,
 ⟨some 42,Op.load 2 (Operand.tmp 41),none⟩,
 ⟨some 11,Op.assign (Operand.tmp 42),none⟩])
 (.seq
 (.region [50,51] false ([]) [
 ⟨some 43,Op.fieldAddr 50 (Operand.tmp 3) 6,none⟩,
 ⟨some 44,Op.load 22 (Operand.tmp 43),none⟩,
 ⟨some 45,Op.move (Operand.tmp 1),none⟩,
 ⟨some 46,Op.indexAddr 22 (Operand.tmp 44) (Operand.tmp 45),none⟩,
 ⟨some 47,Op.load 2 (Operand.tmp 46),none⟩,
 ⟨some 48,Op.move (Operand.tmp 11),none⟩,
 ⟨some 49,Op.build 206 #[(0,Operand.tmp 47),(1,Operand.const (Value.int IntKind.i64 1)),(2,Operand.tmp 48)],none⟩,
 ⟨some 50,Op.buildSlice 207 1 #[(0,Operand.tmp 49)],none⟩,
 ⟨some 51,Op.box 207 (Operand.tmp 50),none⟩,
 ⟨some 12,Op.assign (Operand.tmp 51),none⟩])
 (.seq
 (.region [] true ([]) [
 ⟨some 52,Op.load 203 (Operand.tmp 8),none⟩,
 ⟨some 53,Op.move (Operand.tmp 11),none⟩,
 ⟨some 54,Op.move (Operand.tmp 12),none⟩,
 ⟨some 55,Op.nilCheck (Operand.tmp 54),none⟩,
 ⟨some 56,Op.load 207 (Operand.tmp 55),none⟩,
 ⟨some 57,Op.indexAddr 207 (Operand.tmp 56) (Operand.const (Value.int IntKind.i64 0)),none⟩,
 ⟨some 58,Op.load 206 (Operand.tmp 57),none⟩,
 ⟨some 59,Op.indexAddr 203 (Operand.tmp 52) (Operand.tmp 53),none⟩,
 ⟨none,Op.store 206 (Operand.tmp 59) (Operand.tmp 58),none⟩])
 (.seq
 (.region [] false ([]) [
 ⟨some 60,Op.move (Operand.tmp 10),none⟩,
 ⟨some 61,Op.move (Operand.tmp 11),none⟩,
 ⟨some 62,Op.indexAddr 59 (Operand.tmp 60) (Operand.tmp 61),none⟩,
 ⟨none,Op.store 4 (Operand.tmp 62) (Operand.const (Value.bool true)),none⟩])
 (.seq
 (.region [] false ([]) [
 ⟨some 13,Op.assign (Operand.const (Value.slice none 0 0)),none⟩])
 (.seq
 (.block 0
 (.loop k88_l0))
 (.seq
 (.region [18] false ([]) [
 ⟨some 166,Op.build 206 #[(0,Operand.const (Value.int IntKind.i64 (-1)))],none⟩,
 ⟨some 18,Op.alloc 206,none⟩,
 ⟨none,Op.store 206 (Operand.tmp 18) (Operand.tmp 166),none⟩])
 (.seq
 (.seq
 (.region [] false ([]) [
 ⟨some 167,Op.fieldAddr 50 (Operand.tmp 3) 0,none⟩,
 ⟨some 168,Op.load 22 (Operand.tmp 167),none⟩,
 ⟨some 169,Op.call {callee:=Callee.builtin Builtin.len,args:=#[Operand.tmp 168],argTypes:=#[22]},none⟩,
 ⟨some 170,Op.move (Operand.const (Value.int IntKind.i64 0)),none⟩])
 (.block 4
 (.loop k88_l2)))
 (.seq
 (.seq
 (.region [] false ([]) [
 ⟨some 217,Op.fieldAddr 206 (Operand.tmp 18) 0,none⟩,
 ⟨some 218,Op.load 2 (Operand.tmp 217),none⟩,
 ⟨some 219,Op.binOp BinOp.lss 2 (Operand.tmp 218) (Operand.const (Value.int IntKind.i64 0)) 2,none⟩])
 (.cond (Operand.tmp 219)
 (.seq
 (.region [] false ([]) [
 ⟨some 220,Op.build 48 #[(0,Operand.const (Value.int IntKind.i64 1))],none⟩,
 ⟨none,Op.store 48 (Operand.tmp 6) (Operand.tmp 220),none⟩])
 .ret)
 .skip))
 (.seq
 (.region [222] false ([]) [
 ⟨some 221,Op.move (Operand.tmp 7),none⟩,
 ⟨some 222,Op.makeSlice 59 (Operand.tmp 221) (Operand.tmp 221),none⟩,
 ⟨some 21,Op.assign (Operand.tmp 222),none⟩])
 (.seq
 (.region [] false ([]) [
 ⟨some 223,Op.makeFunc (Fn.func 150) #[] #[Operand.tmp 3,Operand.tmp 8],none⟩,
 ⟨some 22,Op.assign (Operand.tmp 223),none⟩])
 (.seq
 (.seq
 (.region [] false ([]) [
 ⟨some 224,Op.move (Operand.tmp 13),none⟩,
 ⟨some 225,Op.call {callee:=Callee.builtin Builtin.len,args:=#[Operand.tmp 224],argTypes:=#[22]},none⟩,
 ⟨some 226,Op.binOp BinOp.sub 3 (Operand.tmp 225) (Operand.const (Value.int IntKind.i64 1)) 3,none⟩,
 ⟨some 23,Op.assign (Operand.tmp 226),none⟩])
 (.block 6
 (.loop k88_l3)))
 (.seq
 (.region [300,26] false ([]) [
 ⟨some 297,Op.fieldAddr 206 (Operand.tmp 18) 0,none⟩,
 ⟨some 298,Op.load 2 (Operand.tmp 297),none⟩,
 ⟨some 299,Op.move (Operand.tmp 1),none⟩,
 ⟨some 300,Op.buildSlice 22 1 #[(0,Operand.tmp 299)],none⟩,
 ⟨some 301,Op.build 48 #[(1,Operand.tmp 298),(2,Operand.tmp 300)],none⟩,
 ⟨some 26,Op.alloc 48,none⟩,
 ⟨none,Op.store 48 (Operand.tmp 26) (Operand.tmp 301),none⟩])
 (.seq
 (.region [] false ([]) [
 ⟨some 302,Op.move (Operand.tmp 11),none⟩,
 ⟨some 27,Op.assign (Operand.tmp 302),none⟩])
 (.seq
 (.block 10
 (.loop k88_l5))
 (.seq
 (.region [] false ([]) [
 ⟨some 355,Op.load 48 (Operand.tmp 26),none⟩,
 ⟨none,Op.store 48 (Operand.tmp 6) (Operand.tmp 355),none⟩])
 .ret)))))))))))))))))))))
@[simp] theorem solid_pointer (t : Nat) : solid (some (.pointer t)) = true := rfl
theorem rest_le (g : Gr) (h : VG g) (don : List Bool) : 0 ≤ rest g don g.edgeOf.length := rest_nn h don _ (Nat.le_refl _)
set_option maxHeartbeats 0 in
theorem ds_l1 {g : Gr} {e t : Int} (h : VG g) (h0 : 0 ≤ e) (h1 : e < g.start.length) {st0 : St} (hc : st0.Calm F0 F0) {don : List Bool} {order : List Int} {x : Rc} {Z : Int} (hZ : Z ≤ 40001) {Q : Ex → St → Prop}
    (hE : ∀ (s : St) (best : List Rc) (has : List Bool) (l : List Rc) (n : Nat), SB g e t best has don order s → PS s l n → Heap l n → Keep F0 st0 s → DJ g e best has don order (fun y => y ∈ l.take n) (fun _ _ => True) → (n : Int) + rest g don g.edgeOf.length ≤ Z → Q .normal s)
    (m : Nat) (s : St) (hs : (fun (m : Nat) (s : St) => ∃ (best : List Rc) (has : List Bool) (l : List Rc) (n : Nat) (k : Int), SB g e t best has don order s ∧ s.tm 14 = .ptr (79014, 0) 0 0 ∧ s.ob (79014, 0) = some (.var (cellR x)) ∧ s.tm 15 = .t (.v (.int .i64 k)) ∧ PS s l n ∧ Heap l n ∧ Keep F0 st0 s ∧ DX g e best has don order (fun y => y ∈ l.take n) x k ∧ rd g.first x.v ≤ k ∧ k ≤ rd g.first (x.v + 1) ∧ (n : Int) + rest g don g.edgeOf.length + (rd g.first (x.v + 1) - k) ≤ Z ∧ (m : Int) = rd g.first (x.v + 1) - k) m s) (K' : St → Prop)
    (hN : ∀ (m' : Nat) (s' : St), m' < m → (fun (m : Nat) (s : St) => ∃ (best : List Rc) (has : List Bool) (l : List Rc) (n : Nat) (k : Int), SB g e t best has don order s ∧ s.tm 14 = .ptr (79014, 0) 0 0 ∧ s.ob (79014, 0) = some (.var (cellR x)) ∧ s.tm 15 = .t (.v (.int .i64 k)) ∧ PS s l n ∧ Heap l n ∧ Keep F0 st0 s ∧ DX g e best has don order (fun y => y ∈ l.take n) x k ∧ rd g.first x.v ≤ k ∧ k ≤ rd g.first (x.v + 1) ∧ (n : Int) + rest g don g.edgeOf.length + (rd g.first (x.v + 1) - k) ≤ Z ∧ (m : Int) = rd g.first (x.v + 1) - k) m' s' → K' s') :
    wp2 Try.prog k88_l1 (thenQ K' (inBlk 2 Q)) s := by
  obtain ⟨best, has, l, n, k, hB, s14, o14, s15, p1, hH, q1, d, hk1, hk2, hz, hm⟩ := hs
  have l3 := h.l3
  have l5 := h.l5
  have l6 := h.l6
  have l7 := h.l7
  have xr := d.xr
  obtain ⟨x0, x1⟩ := xr
  have ar := h.arcsOf x0 x1
  have r0 := rest_le g h don
  have hle := p1.le
  have lb := d.lb
  have lh := d.lh
  have dl := d.len
  obtain ⟨xw1, xw2, xw3⟩ := d.real x.v d.xr (d.dn _ d.xr d.xd).1
  rw [d.xb] at xw2 xw3
  obtain ⟨xb1, xb2, xb3⟩ := xw2.bound h h0 h1 (by omega)
  unfold cellR at o14
  unfold k88_l1
  by_cases hlt : k < rd g.first (x.v + 1)
  · obtain ⟨a0, a1, a2, a3, a4, a5⟩ := h.arcOf x0 x1 hk1 hlt
    have hmax : max (rd g.to k) 0 = rd g.to k := by omega
    have gy := recRow_getI encQ best (rd g.to k) a0 (by omega)
    cases hasy : rdb has (rd g.to k) with
    | false =>
      repeat' (first
       | refine wp2_seq fun K hK => ?_
       | refine M_cons fun K hK => ?_
       | (refine hK _ ?_; clear hK K)
       | (refine hX _ ?_; clear hX hY X Y)
       | refine wp2_block ?_
       | refine wp2_inl (mk := [165]) 4 rfl ?_
       | refine wp2_region ?_
       | refine wp2_cond fun X Y hX hY => ?_
       | (refine condK_of (fun c => ?_) (fun c => ?_) <;> (try simp [-List.length_eq_zero_iff] at c))
       | simp (maxSteps := 4000000) (disch := omega) [hB.s2, hB.s3, hB.o3, hB.s8, hB.o8, hB.o33, hB.s10, hB.o37, hB.s12, s14, o14, s15, hlt, gy, hasy, hmax, encQ , mk1, makes])
      all_goals first | omega | skip
      generalize hst : St.put _ (some 164) _ = st4
      have q4 : Keep F0 st0 st4 := by
        rw [← hst]
        (repeat' first | exact q1 | exact q1 _ | refine Keep.put ?_ _ _ | refine Keep.setOb ?_ (by first | rfl | simp) _ | refine Keep.kill hc ?_ (by first | rfl | simp) | refine Keep.ren hc ?_ (by first | rfl | simp) | refine Keep.ren1 hc ?_ (by first | rfl | simp) | refine Keep.kill1 hc ?_ (by first | rfl | simp))
      have p4 : PS st4 l n := by
        rw [← hst]
        exact ⟨by simp [p1.v], by simp [p1.r], p1.le⟩
      have hB4 : SB g e t (best.set (rd g.to k).toNat (arcR g x k)) (has.set (rd g.to k).toNat true) don order st4 := by
        rw [← hst]
        exact ⟨⟨by simp [hB.s1], by simp [hB.s2], by simp [hB.s3], by simp [hB.s6], by simp [hB.s7], by simp [hB.s8], by simp [hB.s10, arcR], by simp [hB.s11], by simp [hB.s13], by simp [hB.o3], by simp [hB.o6], by simp [hB.o8], by simp [hB.o33, arcR, encQ], by simp [hB.o37], fun hn => by simp [hB.o85 hn]⟩, by simp [hB.s9], by simp [hB.s12], by simp [hB.o35]⟩
      have u : st4.tm 14 = .ptr (79014, 0) 0 0 ∧ st4.tm 15 = .t (.v (.int .i64 k)) ∧ st4.tm 162 = pIfc ∧ st4.tm 164 = .ifc 206 (.agg (cellR (arcR g x k))) ∧ st4.ob (79014, 0) = some (.var (cellR x)) := by
        rw [← hst]
        simp [s14, s15, o14, pIfc, cellR, arcR]
      obtain ⟨u14, u15, u162, u164, o14'⟩ := u
      clear hst
      have dx := d.put h hk1 hlt (.inl hasy) (P' := fun y => y ∈ l.take n ∨ y = arcR g x k) (fun y => Iff.rfl)
      refine callI_top ([162, 164, 14, 15] ++ tsB) (((79014, 0), .var (cellR x)) :: sbL g (best.set (rd g.to k).toNat (arcR g x k)) (has.set (rd g.to k).toNat true) don order) ⟨Try.f149, by kernel_rfl, by kernel_rfl, rfl⟩ (vs := [pIfc, .ifc 206 (.agg (cellR (arcR g x k)))]) (by simp [u162, u164]) (by simp) (hpush_p hle (by omega) hH (arcR g x k)) hc q4 rfl rfl p4 ?_ ?_ ?_ ?_
      · intro tt ht
        rcases List.mem_append.1 ht with ht | ht
        · simp at ht
          rcases ht with rfl | rfl | rfl | rfl
          · rw [u162]; exact pIfc_free
          · rw [u164]; simp [AV.free, AV.frees, cellR]
          · rw [u14]; simp [AV.free, calm, Cal.hE]
          · rw [u15]; simp [AV.free]
        · exact hB4.free tt ht
      · intro p hp
        rcases List.mem_cons.1 hp with rfl | hp
        · exact o14'
        · exact hB4.list p hp
      · intro p hp
        rcases List.mem_cons.1 hp with rfl | hp
        · simp [Ob.avs, cellR, AV.frees, AV.free, calm, hF]
        · exact sbL_ok _ _ _ _ _ p hp
      rintro s3 v l2 n2 q3 p3 tm3 ob3 ⟨rfl, e1, e2, e3⟩
      have hB := hB4.back (fun tt ht => tm3 tt (List.mem_append_right _ ht)) (fun p hp => ob3 p (List.mem_cons_of_mem _ hp))
      have s14 : s3.tm 14 = .ptr (79014, 0) 0 0 := by rw [tm3 14 (by decide), u14]
      have s15 : s3.tm 15 = .t (.v (.int .i64 k)) := by rw [tm3 15 (by decide), u15]
      have o14 := ob3 ((79014, 0), .var (cellR x)) (by simp)
      dsimp only at o14
      clear hB4 u14 u15 u162 u164 o14' q4 p4 tm3 ob3
      have hP : (fun y => y ∈ l2.take (n + 1)) = fun y => y ∈ l.take n ∨ y = arcR g x k := by
        funext y
        rw [List.take_of_length_le (by omega)]
        exact propext (e3 y)
      repeat' (first
       | refine M_cons fun K hK => ?_
       | (refine hK _ ?_; clear hK K)
       | refine wp2_region ?_
       | simp (maxSteps := 4000000) (disch := omega) [s15, mk1, makes])
      refine hN (m - 1) _ (by omega) ⟨best.set (rd g.to k).toNat (arcR g x k), has.set (rd g.to k).toNat true, l2, n + 1, k + 1, ?_, by simp [s14], by simp [o14, cellR], by simp, ⟨by simp [p3.v], by simp [p3.r], p3.le⟩, e2, ?_, by rw [hP]; exact dx, by omega, by omega, by push_cast; omega, by omega⟩
      · exact ⟨⟨by simp [hB.s1], by simp [hB.s2], by simp [hB.s3], by simp [hB.s6], by simp [hB.s7], by simp [hB.s8], by simp [hB.s10], by simp [hB.s11], by simp [hB.s13], by simp [hB.o3], by simp [hB.o6], by simp [hB.o8], by simp [hB.o33], by simp [hB.o37], fun hn => by simp [hB.o85 hn]⟩, by simp [hB.s9], by simp [hB.s12], by simp [hB.o35]⟩
      · (repeat' first | exact q3 | exact q3 _ | refine Keep.put ?_ _ _ | refine Keep.setOb ?_ (by first | rfl | simp) _ | refine Keep.kill hc ?_ (by first | rfl | simp) | refine Keep.ren hc ?_ (by first | rfl | simp) | refine Keep.ren1 hc ?_ (by first | rfl | simp) | refine Keep.kill1 hc ?_ (by first | rfl | simp))
    | true =>
      obtain ⟨b1, b2, b3⟩ := d.real (rd g.to k) ⟨a0, a1⟩ hasy
      obtain ⟨c1, c2, c3⟩ := b2.bound h h0 h1 (by omega)
      by_cases hl1 : x.a + rd g.cost k < (nth best (rd g.to k)).a
      · have hlr : Lt (arcR g x k) (nth best (rd g.to k)) := .inl hl1
        repeat' (first
         | refine wp2_seq fun K hK => ?_
         | refine M_cons fun K hK => ?_
         | (refine hK _ ?_; clear hK K)
         | (refine hX _ ?_; clear hX hY X Y)
         | refine wp2_block ?_
         | refine wp2_inl (mk := [165]) 4 rfl ?_
         | refine wp2_region ?_
         | refine wp2_cond fun X Y hX hY => ?_
         | (refine condK_of (fun c => ?_) (fun c => ?_) <;> (try simp [-List.length_eq_zero_iff] at c))
         | simp (maxSteps := 4000000) (disch := omega) [hB.s2, hB.s3, hB.o3, hB.s8, hB.o8, hB.o33, hB.s10, hB.o37, hB.s12, s14, o14, s15, hlt, gy, hasy, hmax, encQ , hl1, mk1, makes])
        all_goals first | omega | skip
        generalize hst : St.put _ (some 164) _ = st4
        have q4 : Keep F0 st0 st4 := by
          rw [← hst]
          (repeat' first | exact q1 | exact q1 _ | refine Keep.put ?_ _ _ | refine Keep.setOb ?_ (by first | rfl | simp) _ | refine Keep.kill hc ?_ (by first | rfl | simp) | refine Keep.ren hc ?_ (by first | rfl | simp) | refine Keep.ren1 hc ?_ (by first | rfl | simp) | refine Keep.kill1 hc ?_ (by first | rfl | simp))
        have p4 : PS st4 l n := by
          rw [← hst]
          exact ⟨by simp [p1.v], by simp [p1.r], p1.le⟩
        have hB4 : SB g e t (best.set (rd g.to k).toNat (arcR g x k)) (has.set (rd g.to k).toNat true) don order st4 := by
          rw [← hst]
          exact ⟨⟨by simp [hB.s1], by simp [hB.s2], by simp [hB.s3], by simp [hB.s6], by simp [hB.s7], by simp [hB.s8], by simp [hB.s10, arcR], by simp [hB.s11], by simp [hB.s13], by simp [hB.o3], by simp [hB.o6], by simp [hB.o8], by simp [hB.o33, arcR, encQ], by simp [hB.o37], fun hn => by simp [hB.o85 hn]⟩, by simp [hB.s9], by simp [hB.s12], by simp [hB.o35]⟩
        have u : st4.tm 14 = .ptr (79014, 0) 0 0 ∧ st4.tm 15 = .t (.v (.int .i64 k)) ∧ st4.tm 162 = pIfc ∧ st4.tm 164 = .ifc 206 (.agg (cellR (arcR g x k))) ∧ st4.ob (79014, 0) = some (.var (cellR x)) := by
          rw [← hst]
          simp [s14, s15, o14, pIfc, cellR, arcR]
        obtain ⟨u14, u15, u162, u164, o14'⟩ := u
        clear hst
        have dx := d.put h hk1 hlt (.inr hlr) (P' := fun y => y ∈ l.take n ∨ y = arcR g x k) (fun y => Iff.rfl)
        refine callI_top ([162, 164, 14, 15] ++ tsB) (((79014, 0), .var (cellR x)) :: sbL g (best.set (rd g.to k).toNat (arcR g x k)) (has.set (rd g.to k).toNat true) don order) ⟨Try.f149, by kernel_rfl, by kernel_rfl, rfl⟩ (vs := [pIfc, .ifc 206 (.agg (cellR (arcR g x k)))]) (by simp [u162, u164]) (by simp) (hpush_p hle (by omega) hH (arcR g x k)) hc q4 rfl rfl p4 ?_ ?_ ?_ ?_
        · intro tt ht
          rcases List.mem_append.1 ht with ht | ht
          · simp at ht
            rcases ht with rfl | rfl | rfl | rfl
            · rw [u162]; exact pIfc_free
            · rw [u164]; simp [AV.free, AV.frees, cellR]
            · rw [u14]; simp [AV.free, calm, Cal.hE]
            · rw [u15]; simp [AV.free]
          · exact hB4.free tt ht
        · intro p hp
          rcases List.mem_cons.1 hp with rfl | hp
          · exact o14'
          · exact hB4.list p hp
        · intro p hp
          rcases List.mem_cons.1 hp with rfl | hp
          · simp [Ob.avs, cellR, AV.frees, AV.free, calm, hF]
          · exact sbL_ok _ _ _ _ _ p hp
        rintro s3 v l2 n2 q3 p3 tm3 ob3 ⟨rfl, e1, e2, e3⟩
        have hB := hB4.back (fun tt ht => tm3 tt (List.mem_append_right _ ht)) (fun p hp => ob3 p (List.mem_cons_of_mem _ hp))
        have s14 : s3.tm 14 = .ptr (79014, 0) 0 0 := by rw [tm3 14 (by decide), u14]
        have s15 : s3.tm 15 = .t (.v (.int .i64 k)) := by rw [tm3 15 (by decide), u15]
        have o14 := ob3 ((79014, 0), .var (cellR x)) (by simp)
        dsimp only at o14
        clear hB4 u14 u15 u162 u164 o14' q4 p4 tm3 ob3
        have hP : (fun y => y ∈ l2.take (n + 1)) = fun y => y ∈ l.take n ∨ y = arcR g x k := by
          funext y
          rw [List.take_of_length_le (by omega)]
          exact propext (e3 y)
        repeat' (first
         | refine M_cons fun K hK => ?_
         | (refine hK _ ?_; clear hK K)
         | refine wp2_region ?_
         | simp (maxSteps := 4000000) (disch := omega) [s15, mk1, makes])
        refine hN (m - 1) _ (by omega) ⟨best.set (rd g.to k).toNat (arcR g x k), has.set (rd g.to k).toNat true, l2, n + 1, k + 1, ?_, by simp [s14], by simp [o14, cellR], by simp, ⟨by simp [p3.v], by simp [p3.r], p3.le⟩, e2, ?_, by rw [hP]; exact dx, by omega, by omega, by push_cast; omega, by omega⟩
        · exact ⟨⟨by simp [hB.s1], by simp [hB.s2], by simp [hB.s3], by simp [hB.s6], by simp [hB.s7], by simp [hB.s8], by simp [hB.s10], by simp [hB.s11], by simp [hB.s13], by simp [hB.o3], by simp [hB.o6], by simp [hB.o8], by simp [hB.o33], by simp [hB.o37], fun hn => by simp [hB.o85 hn]⟩, by simp [hB.s9], by simp [hB.s12], by simp [hB.o35]⟩
        · (repeat' first | exact q3 | exact q3 _ | refine Keep.put ?_ _ _ | refine Keep.setOb ?_ (by first | rfl | simp) _ | refine Keep.kill hc ?_ (by first | rfl | simp) | refine Keep.ren hc ?_ (by first | rfl | simp) | refine Keep.ren1 hc ?_ (by first | rfl | simp) | refine Keep.kill1 hc ?_ (by first | rfl | simp))
      · by_cases hl2 : x.a + rd g.cost k = (nth best (rd g.to k)).a
        · by_cases hl3 : x.b + 1 < (nth best (rd g.to k)).b
          · have hlr : Lt (arcR g x k) (nth best (rd g.to k)) := .inr ⟨hl2, hl3⟩
            have hl4 : (x.a + rd g.cost k == (nth best (rd g.to k)).a) = true := by simpa using hl2
            repeat' (first
             | refine wp2_seq fun K hK => ?_
             | refine M_cons fun K hK => ?_
             | (refine hK _ ?_; clear hK K)
             | (refine hX _ ?_; clear hX hY X Y)
             | refine wp2_block ?_
             | refine wp2_inl (mk := [165]) 4 rfl ?_
             | refine wp2_region ?_
             | refine wp2_cond fun X Y hX hY => ?_
             | (refine condK_of (fun c => ?_) (fun c => ?_) <;> (try simp [-List.length_eq_zero_iff] at c))
             | simp (maxSteps := 4000000) (disch := omega) [hB.s2, hB.s3, hB.o3, hB.s8, hB.o8, hB.o33, hB.s10, hB.o37, hB.s12, s14, o14, s15, hlt, gy, hasy, hmax, encQ , hl1, hl3, hl4, mk1, makes])
            all_goals first | omega | skip
            generalize hst : St.put _ (some 164) _ = st4
            have q4 : Keep F0 st0 st4 := by
              rw [← hst]
              (repeat' first | exact q1 | exact q1 _ | refine Keep.put ?_ _ _ | refine Keep.setOb ?_ (by first | rfl | simp) _ | refine Keep.kill hc ?_ (by first | rfl | simp) | refine Keep.ren hc ?_ (by first | rfl | simp) | refine Keep.ren1 hc ?_ (by first | rfl | simp) | refine Keep.kill1 hc ?_ (by first | rfl | simp))
            have p4 : PS st4 l n := by
              rw [← hst]
              exact ⟨by simp [p1.v], by simp [p1.r], p1.le⟩
            have hB4 : SB g e t (best.set (rd g.to k).toNat (arcR g x k)) (has.set (rd g.to k).toNat true) don order st4 := by
              rw [← hst]
              exact ⟨⟨by simp [hB.s1], by simp [hB.s2], by simp [hB.s3], by simp [hB.s6], by simp [hB.s7], by simp [hB.s8], by simp [hB.s10, arcR], by simp [hB.s11], by simp [hB.s13], by simp [hB.o3], by simp [hB.o6], by simp [hB.o8], by simp [hB.o33, arcR, encQ], by simp [hB.o37], fun hn => by simp [hB.o85 hn]⟩, by simp [hB.s9], by simp [hB.s12], by simp [hB.o35]⟩
            have u : st4.tm 14 = .ptr (79014, 0) 0 0 ∧ st4.tm 15 = .t (.v (.int .i64 k)) ∧ st4.tm 162 = pIfc ∧ st4.tm 164 = .ifc 206 (.agg (cellR (arcR g x k))) ∧ st4.ob (79014, 0) = some (.var (cellR x)) := by
              rw [← hst]
              simp [s14, s15, o14, pIfc, cellR, arcR]
            obtain ⟨u14, u15, u162, u164, o14'⟩ := u
            clear hst
            have dx := d.put h hk1 hlt (.inr hlr) (P' := fun y => y ∈ l.take n ∨ y = arcR g x k) (fun y => Iff.rfl)
            refine callI_top ([162, 164, 14, 15] ++ tsB) (((79014, 0), .var (cellR x)) :: sbL g (best.set (rd g.to k).toNat (arcR g x k)) (has.set (rd g.to k).toNat true) don order) ⟨Try.f149, by kernel_rfl, by kernel_rfl, rfl⟩ (vs := [pIfc, .ifc 206 (.agg (cellR (arcR g x k)))]) (by simp [u162, u164]) (by simp) (hpush_p hle (by omega) hH (arcR g x k)) hc q4 rfl rfl p4 ?_ ?_ ?_ ?_
            · intro tt ht
              rcases List.mem_append.1 ht with ht | ht
              · simp at ht
                rcases ht with rfl | rfl | rfl | rfl
                · rw [u162]; exact pIfc_free
                · rw [u164]; simp [AV.free, AV.frees, cellR]
                · rw [u14]; simp [AV.free, calm, Cal.hE]
                · rw [u15]; simp [AV.free]
              · exact hB4.free tt ht
            · intro p hp
              rcases List.mem_cons.1 hp with rfl | hp
              · exact o14'
              · exact hB4.list p hp
            · intro p hp
              rcases List.mem_cons.1 hp with rfl | hp
              · simp [Ob.avs, cellR, AV.frees, AV.free, calm, hF]
              · exact sbL_ok _ _ _ _ _ p hp
            rintro s3 v l2 n2 q3 p3 tm3 ob3 ⟨rfl, e1, e2, e3⟩
            have hB := hB4.back (fun tt ht => tm3 tt (List.mem_append_right _ ht)) (fun p hp => ob3 p (List.mem_cons_of_mem _ hp))
            have s14 : s3.tm 14 = .ptr (79014, 0) 0 0 := by rw [tm3 14 (by decide), u14]
            have s15 : s3.tm 15 = .t (.v (.int .i64 k)) := by rw [tm3 15 (by decide), u15]
            have o14 := ob3 ((79014, 0), .var (cellR x)) (by simp)
            dsimp only at o14
            clear hB4 u14 u15 u162 u164 o14' q4 p4 tm3 ob3
            have hP : (fun y => y ∈ l2.take (n + 1)) = fun y => y ∈ l.take n ∨ y = arcR g x k := by
              funext y
              rw [List.take_of_length_le (by omega)]
              exact propext (e3 y)
            repeat' (first
             | refine M_cons fun K hK => ?_
             | (refine hK _ ?_; clear hK K)
             | refine wp2_region ?_
             | simp (maxSteps := 4000000) (disch := omega) [s15, mk1, makes])
            refine hN (m - 1) _ (by omega) ⟨best.set (rd g.to k).toNat (arcR g x k), has.set (rd g.to k).toNat true, l2, n + 1, k + 1, ?_, by simp [s14], by simp [o14, cellR], by simp, ⟨by simp [p3.v], by simp [p3.r], p3.le⟩, e2, ?_, by rw [hP]; exact dx, by omega, by omega, by push_cast; omega, by omega⟩
            · exact ⟨⟨by simp [hB.s1], by simp [hB.s2], by simp [hB.s3], by simp [hB.s6], by simp [hB.s7], by simp [hB.s8], by simp [hB.s10], by simp [hB.s11], by simp [hB.s13], by simp [hB.o3], by simp [hB.o6], by simp [hB.o8], by simp [hB.o33], by simp [hB.o37], fun hn => by simp [hB.o85 hn]⟩, by simp [hB.s9], by simp [hB.s12], by simp [hB.o35]⟩
            · (repeat' first | exact q3 | exact q3 _ | refine Keep.put ?_ _ _ | refine Keep.setOb ?_ (by first | rfl | simp) _ | refine Keep.kill hc ?_ (by first | rfl | simp) | refine Keep.ren hc ?_ (by first | rfl | simp) | refine Keep.ren1 hc ?_ (by first | rfl | simp) | refine Keep.kill1 hc ?_ (by first | rfl | simp))
          · have hns : ¬ Lt (arcR g x k) (nth best (rd g.to k)) := by unfold Lt arcR; dsimp only; omega
            have hl4 : (x.a + rd g.cost k == (nth best (rd g.to k)).a) = true := by simpa using hl2
            repeat' (first
             | refine wp2_seq fun K hK => ?_
             | refine M_cons fun K hK => ?_
             | (refine hK _ ?_; clear hK K)
             | (refine hX _ ?_; clear hX hY X Y)
             | (refine hY _ ?_; clear hX hY X Y)
             | refine wp2_block ?_
             | refine wp2_region ?_
             | refine wp2_cond fun X Y hX hY => ?_
             | (refine condK_of (fun c => ?_) (fun c => ?_) <;> (try simp [-List.length_eq_zero_iff] at c))
             | simp (maxSteps := 4000000) (disch := omega) [hB.s2, hB.s3, hB.o3, hB.s8, hB.o8, hB.o33, hB.s10, hB.o37, hB.s12, s14, o14, s15, hlt, gy, hasy, hmax, encQ, hl1, hl3, hl4])
            all_goals first | omega | skip
            refine hN (m - 1) _ (by omega) ⟨best, has, l, n, k + 1, ?_, by simp [s14], by simp [o14, cellR], by simp, ⟨by simp [p1.v], by simp [p1.r], p1.le⟩, hH, ?_, d.skip hasy hns, by omega, by omega, by omega, by omega⟩
            · exact ⟨⟨by simp [hB.s1], by simp [hB.s2], by simp [hB.s3], by simp [hB.s6], by simp [hB.s7], by simp [hB.s8], by simp [hB.s10], by simp [hB.s11], by simp [hB.s13], by simp [hB.o3], by simp [hB.o6], by simp [hB.o8], by simp [hB.o33], by simp [hB.o37], fun hn => by simp [hB.o85 hn]⟩, by simp [hB.s9], by simp [hB.s12], by simp [hB.o35]⟩
            · (repeat' first | exact q1 | exact q1 _ | refine Keep.put ?_ _ _ | refine Keep.setOb ?_ (by first | rfl | simp) _ | refine Keep.kill hc ?_ (by first | rfl | simp) | refine Keep.ren hc ?_ (by first | rfl | simp) | refine Keep.ren1 hc ?_ (by first | rfl | simp) | refine Keep.kill1 hc ?_ (by first | rfl | simp))
        · have hns : ¬ Lt (arcR g x k) (nth best (rd g.to k)) := by unfold Lt arcR; dsimp only; omega
          have hl4 : (x.a + rd g.cost k == (nth best (rd g.to k)).a) = false := by simpa using hl2
          repeat' (first
           | refine wp2_seq fun K hK => ?_
           | refine M_cons fun K hK => ?_
           | (refine hK _ ?_; clear hK K)
           | (refine hX _ ?_; clear hX hY X Y)
           | (refine hY _ ?_; clear hX hY X Y)
           | refine wp2_block ?_
           | refine wp2_region ?_
           | refine wp2_cond fun X Y hX hY => ?_
           | (refine condK_of (fun c => ?_) (fun c => ?_) <;> (try simp [-List.length_eq_zero_iff] at c))
           | simp (maxSteps := 4000000) (disch := omega) [hB.s2, hB.s3, hB.o3, hB.s8, hB.o8, hB.o33, hB.s10, hB.o37, hB.s12, s14, o14, s15, hlt, gy, hasy, hmax, encQ, hl1, hl4])
          all_goals first | omega | skip
          refine hN (m - 1) _ (by omega) ⟨best, has, l, n, k + 1, ?_, by simp [s14], by simp [o14, cellR], by simp, ⟨by simp [p1.v], by simp [p1.r], p1.le⟩, hH, ?_, d.skip hasy hns, by omega, by omega, by omega, by omega⟩
          · exact ⟨⟨by simp [hB.s1], by simp [hB.s2], by simp [hB.s3], by simp [hB.s6], by simp [hB.s7], by simp [hB.s8], by simp [hB.s10], by simp [hB.s11], by simp [hB.s13], by simp [hB.o3], by simp [hB.o6], by simp [hB.o8], by simp [hB.o33], by simp [hB.o37], fun hn => by simp [hB.o85 hn]⟩, by simp [hB.s9], by simp [hB.s12], by simp [hB.o35]⟩
          · (repeat' first | exact q1 | exact q1 _ | refine Keep.put ?_ _ _ | refine Keep.setOb ?_ (by first | rfl | simp) _ | refine Keep.kill hc ?_ (by first | rfl | simp) | refine Keep.ren hc ?_ (by first | rfl | simp) | refine Keep.ren1 hc ?_ (by first | rfl | simp) | refine Keep.kill1 hc ?_ (by first | rfl | simp))
  · have ek : k = rd g.first (x.v + 1) := by omega
    subst ek
    repeat' (first
     | refine wp2_seq fun K hK => ?_
     | refine M_cons fun K hK => ?_
     | (refine hK _ ?_; clear hK K)
     | (refine hY _ ?_; clear hX hY X Y)
     | refine wp2_region ?_
     | refine wp2_cond fun X Y hX hY => ?_
     | (refine condK_of (fun c => ?_) (fun c => ?_) <;> (try simp [-List.length_eq_zero_iff] at c))
     | simp (maxSteps := 4000000) (disch := omega) [hB.s2, hB.s3, hB.o3, hB.s8, hB.o8, hB.o33, hB.s10, hB.o37, hB.s12, s14, o14, s15])
    all_goals first | omega | skip
    refine hE _ best has l n ?_ ⟨by simp [p1.v], by simp [p1.r], p1.le⟩ hH ?_ d.close (by omega)
    · exact ⟨⟨by simp [hB.s1], by simp [hB.s2], by simp [hB.s3], by simp [hB.s6], by simp [hB.s7], by simp [hB.s8], by simp [hB.s10], by simp [hB.s11], by simp [hB.s13], by simp [hB.o3], by simp [hB.o6], by simp [hB.o8], by simp [hB.o33], by simp [hB.o37], fun hn => by simp [hB.o85 hn]⟩, by simp [hB.s9], by simp [hB.s12], by simp [hB.o35]⟩
    · (repeat' first | exact q1 | exact q1 _ | refine Keep.put ?_ _ _ | refine Keep.setOb ?_ (by first | rfl | simp) _ | refine Keep.kill hc ?_ (by first | rfl | simp) | refine Keep.ren hc ?_ (by first | rfl | simp) | refine Keep.ren1 hc ?_ (by first | rfl | simp) | refine Keep.kill1 hc ?_ (by first | rfl | simp))
end Cal

/- impl.shortest: the search. -/
set_option linter.unusedSimpArgs false
set_option linter.unusedVariables false
namespace Cal
open Go Go.Proofs
set_option maxRecDepth 100000
/-- A call in line of what only reads: the objects that are needed behind it are listed. -/
theorem callI_pure {d : Option Nat} {op : Op} {f : FuncId} {vs : List AV} {v : AV} {s st : St} {K : St → Prop} {E F : List Nat} (ts : List Nat) (L : List (Id × Ob)) (hop : EntersAt Try.prog (st.only ts fun id => calm F id ∨ ∃ o, (id, o) ∈ L) op f vs)
    (h : ∀ s' : St, s'.Calm [] [] → (∀ p ∈ L, s'.ob p.1 = some p.2) → ∀ R : AV → St → Prop, (∀ s'', Keep [] s' s'' → R v s'') → Inl Try.prog f vs s' R) (hc : s.Calm E F) (q : Keep F s st) (h1 : ∀ t ∈ ts, (st.tm t).free fun id => ¬ calm [] id) (hL : ∀ p ∈ L, st.ob p.1 = some p.2) (hLo : ∀ p ∈ L, AV.frees (fun id => ¬ calm [] id) p.2.avs ∧ calm [] p.1)
    (hK : ∀ s3, Keep F s s3 → (∀ t ∈ ts, s3.tm t = st.tm t) → (∀ p ∈ L, s3.ob p.1 = some p.2) → K (s3.put d v)) : CallI Try.prog d op st K := by
  have sub : ∀ (E : List Nat) id, calm E id → calm [] id := fun E id hid => ⟨hid.1, hid.2.1, by simp⟩
  have hcalm : (st.only ts fun id => calm F id ∨ ∃ o, (id, o) ∈ L).push.Calm [] [] := by
    refine ⟨fun t => ?_, fun id o hid ho => ?_⟩
    · simp only [St.push, St.only]
      split
      · split
        · exact h1 _ (by assumption)
        · unfold AV.free; trivial
      · rw [q.gh]
        exact AV.free_mono (fun id hid hcm => hid (sub E id hcm)) _ (hc.gh _)
    · rw [push_ob] at ho
      by_cases hq : ∃ o, (id, o) ∈ L
      · obtain ⟨o', ho'⟩ := hq
        rw [only_ob (.inr ⟨o', ho'⟩), hL _ ho'] at ho
        cases ho
        exact (hLo _ ho').1
      · by_cases hp : calm F id
        · rw [only_ob (.inl hp), q.ob id hp] at ho
          exact AV.frees_mono (fun id hid hcm => hid (sub E id hcm)) _ (hc.ob id o hp ho)
        · simp only [St.only] at ho
          rw [if_neg (by
            rintro (h | h)
            · exact hp h
            · exact hq h)] at ho
          cases ho
  refine callI_intro (Weaker.only _ ts _) hop (h _ hcalm (fun p hp => by rw [push_ob, only_ob (.inr ⟨p.2, hp⟩)]; exact hL p hp) _ ?_)
  intro s' k
  obtain ⟨kp, ktm⟩ := k.pop
  refine hK s'.pop0 ⟨fun t => ?_, fun id hid => ?_⟩ (fun t ht => ?_) (fun p hp => ?_)
  · rw [kp.gh]
    exact q.gh t
  · rw [kp.ob id (sub F id hid), only_ob (.inl hid)]
    exact q.ob id hid
  · rw [ktm]
    simp [St.only, ht]
  · rw [kp.ob _ (hLo p hp).2, only_ob (.inr ⟨p.2, hp⟩)]
    exact hL p hp
theorem free_pure {v : AV} (h : v.free fun id => ¬ calm Cal.hE id) : v.free fun id => ¬ calm [] id := AV.free_mono (fun id hid hcm => hid ⟨hcm.1, hcm.2.1, by simp⟩) _ h
theorem frees_pure {v : List AV} (h : AV.frees (fun id => ¬ calm Cal.hE id) v) : AV.frees (fun id => ¬ calm [] id) v := AV.frees_mono (fun id hid hcm => hid ⟨hcm.1, hcm.2.1, by simp⟩) _ h
theorem cellsR_free (p : Id → Prop) : ∀ l : List Rc, AV.frees p (cellsR l).flatten
  | [] => by unfold cellsR; simp [AV.frees]
  | r :: l => by
    have := cellsR_free p l
    unfold cellsR at *
    rw [List.map_cons, List.flatten_cons]
    simp only [cellR, List.cons_append, List.nil_append, AV.frees, AV.free, true_and]
    exact this
theorem len_inl (n : Nat) (s : St) {R : AV → St → Prop} (hR : ∀ s', Keep [] s s' → R (.t (.v (.int .i64 n))) s') : Inl Try.prog 147 [.row (79051, 0) 3 0 n] s R := by
  refine inl_of_wp2 (fn := Try.f147) (k := k147) (fun _ => []) mixed (by kernel_rfl) rfl (by kernel_rfl) (by kernel_rfl) rfl (by simp [Try.f147]) ?_
  generalize hst : s.body [.row (79051, 0) 3 0 n] = st0
  have q0 : ∀ F, Keep F s st0 := fun F => by rw [← hst]; exact (Keep.refl F s).body _
  have hob : st0.ob = s.ob := by rw [← hst]; rfl
  have t0 : st0.tm 0 = .row (79051, 0) 3 0 n := by rw [← hst]; rfl
  clear hst
  unfold k147
  repeat' (first
   | refine wp2_seq fun K hK => ?_
   | refine M_cons fun K hK => ?_
   | (refine hK _ ?_; clear hK K)
   | refine wp2_region ?_
   | simp (maxSteps := 4000000) (disch := omega) [t0])
  refine ⟨.t (.v (.int .i64 n)), by simp [resultA, resA], hR _ (Keep.bare ?_)⟩
  (repeat' first | exact q0 | exact q0 _ | refine Keep.put ?_ _ _ | refine Keep.setOb ?_ (by first | rfl | simp) _ | refine Keep.kill hc ?_ (by first | rfl | simp) | refine Keep.ren hc ?_ (by first | rfl | simp) | refine Keep.ren1 hc ?_ (by first | rfl | simp) | refine Keep.kill1 hc ?_ (by first | rfl | simp))
theorem nth_zero {l : List Rc} {n : Nat} (h : n + 1 ≤ l.length) : nth l ((0 : Nat) : Int) ∈ l.take (n + 1) := by
  refine mem_nth.2 ⟨0, by rw [List.length_take]; omega, ?_⟩
  unfold nth
  simp only [Int.toNat_natCast, List.getD_eq_getElem?_getD]
  rw [List.getElem?_take, if_pos (by omega)]
theorem take_least {l : List Rc} {n : Nat} (hH : Heap l n) (hn : n ≤ l.length) {y : Rc} (hy : y ∈ l.take n) : Le (nth l ((0 : Nat) : Int)) y := by
  obtain ⟨i, hi, rfl⟩ := mem_nth.1 hy
  rw [List.length_take] at hi
  have e : nth (l.take n) (i : Int) = nth l i := by
    unfold nth
    simp only [Int.toNat_natCast, List.getD_eq_getElem?_getD]
    rw [List.getElem?_take, if_pos (by omega)]
  rw [e]
  exact hH.least i (by omega)
set_option maxHeartbeats 0 in
theorem ds_l0 {g : Gr} {e t : Int} (h : VG g) (h0 : 0 ≤ e) (h1 : e < g.start.length) {st0 : St} (hc : st0.Calm F0 F0) {Q : Ex → St → Prop}
    (hE : ∀ (s : St) (best : List Rc) (has : List Bool) (order : List Int), SC g e t best has order s → Keep F0 st0 s → FD g e best has order → Q .normal s)
    (m : Nat) (s : St) (hs : (fun (m : Nat) (s : St) => ∃ (best : List Rc) (has don : List Bool) (order : List Int) (l : List Rc) (n : Nat), SB g e t best has don order s ∧ PS s l n ∧ Heap l n ∧ Keep F0 st0 s ∧ DJ g e best has don order (fun y => y ∈ l.take n) (fun _ _ => True) ∧ (m : Int) = (n : Int) + rest g don g.edgeOf.length ∧ m ≤ 40001) m s) (K' : St → Prop)
    (hN : ∀ (m' : Nat) (s' : St), m' < m → (fun (m : Nat) (s : St) => ∃ (best : List Rc) (has don : List Bool) (order : List Int) (l : List Rc) (n : Nat), SB g e t best has don order s ∧ PS s l n ∧ Heap l n ∧ Keep F0 st0 s ∧ DJ g e best has don order (fun y => y ∈ l.take n) (fun _ _ => True) ∧ (m : Int) = (n : Int) + rest g don g.edgeOf.length ∧ m ≤ 40001) m' s' → K' s') :
    wp2 Try.prog k88_l0 (thenQ K' (inBlk 0 Q)) s := by
  obtain ⟨best, has, don, order, l, n, hB, p1, hH, q1, d, hm, hm2⟩ := hs
  have l3 := h.l3
  have l5 := h.l5
  have l6 := h.l6
  have l7 := h.l7
  have r0 := rest_le g h don
  have hle := p1.le
  have lb := d.lb
  have lh := d.lh
  have ld := d.ld
  have dl := d.len
  unfold k88_l0
  repeat' (first
   | refine wp2_seq fun K hK => ?_
   | refine M_cons fun K hK => ?_
   | (refine hK _ ?_; clear hK K)
   | refine wp2_inl (mk := [66]) 3 rfl ?_
   | simp (maxSteps := 4000000) (disch := omega) [hB.s2, hB.s3, hB.o3, hB.s8, hB.o8, hB.o33, hB.s9, hB.o35, hB.s10, hB.o37, hB.s12, p1.v, mk1, makes])
  generalize hst : St.put _ (some 65) _ = st4
  have q4 : Keep F0 st0 st4 := by
    rw [← hst]
    (repeat' first | exact q1 | exact q1 _ | refine Keep.put ?_ _ _ | refine Keep.setOb ?_ (by first | rfl | simp) _ | refine Keep.kill hc ?_ (by first | rfl | simp) | refine Keep.ren hc ?_ (by first | rfl | simp) | refine Keep.ren1 hc ?_ (by first | rfl | simp) | refine Keep.kill1 hc ?_ (by first | rfl | simp))
  have p4 : PS st4 l n := by
    rw [← hst]
    exact ⟨by simp [p1.v], by simp [p1.r], p1.le⟩
  have hB4 : SB g e t best has don order st4 := by
    rw [← hst]
    exact ⟨⟨by simp [hB.s1], by simp [hB.s2], by simp [hB.s3], by simp [hB.s6], by simp [hB.s7], by simp [hB.s8], by simp [hB.s10], by simp [hB.s11], by simp [hB.s13], by simp [hB.o3], by simp [hB.o6], by simp [hB.o8], by simp [hB.o33], by simp [hB.o37], fun hn => by simp [hB.o85 hn]⟩, by simp [hB.s9], by simp [hB.s12], by simp [hB.o35]⟩
  have u65 : st4.tm 65 = .row (79051, 0) 3 0 n := by
    rw [← hst]
    simp
  clear hst hB q1 p1
  refine callI_pure ([65] ++ tsB) (((79050, 0), .var [.row (79051, 0) 3 0 n]) :: ((79051, 0), .big 3 (cellsR l)) :: sbL g best has don order) (entersAt_call ⟨Try.f147, by kernel_rfl, by kernel_rfl, rfl⟩) (v := .t (.v (.int .i64 n))) ?_ hc q4 ?_ ?_ ?_ ?_
  · intro s' _ _ R hR
    have e : (#[Operand.tmp 65] : Array Operand).toList.map (st4.only ([65] ++ tsB) fun id => calm F0 id ∨ ∃ o, (id, o) ∈ (((79050, 0), .var [.row (79051, 0) 3 0 n]) :: ((79051, 0), .big 3 (cellsR l)) :: sbL g best has don order : List (Id × Ob))).ev = [.row (79051, 0) 3 0 n] := by
      simp [u65]
    rw [e]
    exact len_inl n s' hR
  · intro tt ht
    rcases List.mem_append.1 ht with ht | ht
    · simp at ht
      subst ht
      rw [u65]
      simp [AV.free, calm]
    · exact free_pure (hB4.free tt ht)
  · intro p hp
    simp only [List.mem_cons] at hp
    rcases hp with rfl | rfl | hp
    · exact p4.v
    · exact p4.r
    · exact hB4.list p hp
  · intro p hp
    simp only [List.mem_cons] at hp
    rcases hp with rfl | rfl | hp
    · simp [Ob.avs, AV.frees, AV.free, calm]
    · refine ⟨?_, by simp [calm]⟩
      exact cellsR_free _ l
    · obtain ⟨a, b⟩ := sbL_ok _ _ _ _ _ p hp
      exact ⟨frees_pure a, b.1, b.2.1, by simp⟩
  intro s3 q3 tm3 ob3
  have hB := hB4.back (fun tt ht => tm3 tt (List.mem_append_right _ ht)) (fun p hp => ob3 p (by simp [hp]))
  have p3 : PS s3 l n := ⟨ob3 ((79050, 0), .var [.row (79051, 0) 3 0 n]) (by simp), ob3 ((79051, 0), .big 3 (cellsR l)) (by simp), hle⟩
  clear hB4 u65 q4 p4 tm3 ob3
  rcases n with _ | n2
  · repeat' (first
   | refine M_cons fun K hK => ?_
   | (refine hK _ ?_; clear hK K)
   | (refine hY _ ?_; clear hX hY X Y)
   | refine wp2_cond fun X Y hX hY => ?_
   | (refine condK_of (fun c => ?_) (fun c => ?_) <;> (try simp [-List.length_eq_zero_iff] at c))
   | simp (maxSteps := 4000000) (disch := omega) [hB.s2, hB.s3, hB.o3, hB.s8, hB.o8, hB.o33, hB.s9, hB.o35, hB.s10, hB.o37, hB.s12, hB.s13, mk1, makes])
    have hP : (fun y => y ∈ l.take 0) = fun _ => False := by
      funext y
      simp
    rw [hP] at d
    refine hE _ best has order ?_ ?_ (d.final h h0 h1)
    · exact ⟨by simp [hB.s1], by simp [hB.s2], by simp [hB.s3], by simp [hB.s6], by simp [hB.s7], by simp [hB.s8], by simp [hB.s10], by simp [hB.s11], by simp [hB.s13], by simp [hB.o3], by simp [hB.o6], by simp [hB.o8], by simp [hB.o33], by simp [hB.o37], fun hn => by simp [hB.o85 hn]⟩
    · (repeat' first | exact q3 | exact q3 _ | refine Keep.put ?_ _ _ | refine Keep.setOb ?_ (by first | rfl | simp) _ | refine Keep.kill hc ?_ (by first | rfl | simp) | refine Keep.ren hc ?_ (by first | rfl | simp) | refine Keep.ren1 hc ?_ (by first | rfl | simp) | refine Keep.kill1 hc ?_ (by first | rfl | simp))
  · repeat' (first
   | refine wp2_seq fun K hK => ?_
   | refine M_cons fun K hK => ?_
   | (refine hK _ ?_; clear hK K)
   | (refine hX _ ?_; clear hX hY X Y)
   | refine wp2_block ?_
   | refine wp2_inl (mk := [70, 14]) 2 rfl ?_
   | refine wp2_cond fun X Y hX hY => ?_
   | (refine condK_of (fun c => ?_) (fun c => ?_) <;> (try simp [-List.length_eq_zero_iff] at c))
   | simp (maxSteps := 4000000) (disch := omega) [hB.s2, hB.s3, hB.o3, hB.s8, hB.o8, hB.o33, hB.s9, hB.o35, hB.s10, hB.o37, hB.s12, hB.s13, mk1, makes])
    all_goals first | omega | skip
    generalize hst : St.put _ (some 69) _ = st5
    have q5 : Keep F0 st0 st5 := by
      rw [← hst]
      (repeat' first | exact q3 | exact q3 _ | refine Keep.put ?_ _ _ | refine Keep.setOb ?_ (by first | rfl | simp) _ | refine Keep.kill hc ?_ (by first | rfl | simp) | refine Keep.ren hc ?_ (by first | rfl | simp) | refine Keep.ren1 hc ?_ (by first | rfl | simp) | refine Keep.kill1 hc ?_ (by first | rfl | simp))
    have p5 : PS st5 l (n2 + 1) := by
      rw [← hst]
      exact ⟨by simp [p3.v], by simp [p3.r], p3.le⟩
    have hB5 : SB g e t best has don order st5 := by
      rw [← hst]
      exact ⟨⟨by simp [hB.s1], by simp [hB.s2], by simp [hB.s3], by simp [hB.s6], by simp [hB.s7], by simp [hB.s8], by simp [hB.s10], by simp [hB.s11], by simp [hB.s13], by simp [hB.o3], by simp [hB.o6], by simp [hB.o8], by simp [hB.o33], by simp [hB.o37], fun hn => by simp [hB.o85 hn]⟩, by simp [hB.s9], by simp [hB.s12], by simp [hB.o35]⟩
    have u69 : st5.tm 69 = pIfc := by
      rw [← hst]
      simp [pIfc]
    clear hst hB q3 p3
    refine callI_top ([69] ++ tsB) (sbL g best has don order) ⟨Try.f148, by kernel_rfl, by kernel_rfl, rfl⟩ (vs := [pIfc]) (by simp [u69]) (by simp) (hpop_p hle (by omega) hH) hc q5 rfl rfl p5 ?_ hB5.list (sbL_ok _ _ _ _ _) ?_
    · intro tt ht
      rcases List.mem_append.1 ht with ht | ht
      · simp at ht
        subst ht
        rw [u69]
        exact pIfc_free
      · exact hB5.free tt ht
    rintro s3 v l3' n3 q3 p3 tm3 ob3 ⟨rfl, rfl, e2, e3, e4, e5⟩
    have hB := hB5.back (fun tt ht => tm3 tt (List.mem_append_right _ ht)) ob3
    clear hB5 u69 q5 p5 tm3 ob3
    have hx := nth_zero hle
    have hlx := fun y => take_least hH hle (y := y)
    generalize nth l ((0 : Nat) : Int) = x at *
    obtain ⟨xr, xh, xl, xw, xc⟩ := d.pile x hx
    obtain ⟨x0, x1⟩ := xr
    have ar := h.arcsOf x0 x1
    have hxm : max x.v 0 = x.v := by omega
    have hle3 := p3.le
    cases gd : rdb don x.v with
    | true =>
      repeat' (first
       | refine wp2_seq fun K hK => ?_
       | refine M_cons fun K hK => ?_
       | (refine hK _ ?_; clear hK K)
       | (refine hX _ ?_; clear hX hY X Y)
       | refine wp2_canon (ops := ⟨some 72, _, _⟩ :: _) [(14, 79014)] ?_
       | refine wp2_cond fun X Y hX hY => ?_
       | (refine condK_of (fun c => ?_) (fun c => ?_) <;> (try simp [-List.length_eq_zero_iff] at c))
       | simp (maxSteps := 4000000) (disch := omega) [hB.s2, hB.s3, hB.o3, hB.s8, hB.o8, hB.o33, hB.s9, hB.o35, hB.s10, hB.o37, hB.s12, hB.s13, gd, hxm, mk1, makes, cellR])
      all_goals first | omega | skip
      refine hN (m - 1) _ (by omega) ⟨best, has, don, order, l3', n3, ?_, ⟨by simp [p3.v], by simp [p3.r], p3.le⟩, e3, ?_, d.drop hx gd e4 e5, by omega, by omega⟩
      · exact ⟨⟨by simp [hB.s1], by simp [hB.s2], by simp [hB.s3], by simp [hB.s6], by simp [hB.s7], by simp [hB.s8], by simp [hB.s10], by simp [hB.s11], by simp [hB.s13], by simp [hB.o3], by simp [hB.o6], by simp [hB.o8], by simp [hB.o33], by simp [hB.o37], fun hn => by simp [hB.o85 hn]⟩, by simp [hB.s9], by simp [hB.s12], by simp [hB.o35]⟩
      · (repeat' first | exact q3 | exact q3 _ | refine Keep.put ?_ _ _ | refine Keep.setOb ?_ (by first | rfl | simp) _ | refine Keep.kill hc ?_ (by first | rfl | simp) | refine Keep.ren hc ?_ (by first | rfl | simp) | refine Keep.ren1 hc ?_ (by first | rfl | simp) | refine Keep.kill1 hc ?_ (by first | rfl | simp))
    | false =>
      have dt := d.take hx hlx gd e4 e5
      have re : rest g (don.set x.v.toNat true) g.edgeOf.length = rest g don g.edgeOf.length - (rd g.first (x.v + 1) - rd g.first x.v) := by
        have := rest_set (g := g) don (v := x.v.toNat) (by omega) (by rw [Int.toNat_of_nonneg x0]; exact gd) g.edgeOf.length
        rw [this, if_pos (by omega), Int.toNat_of_nonneg x0]
      by_cases ho : order.length = 0
      · have s13 : s3.tm 13 = .t (.v (.slice none 0 0)) := by rw [hB.s13]; unfold ordV; rw [if_pos ho]
        have he := List.eq_nil_of_length_eq_zero ho
        repeat' (first
         | refine wp2_seq fun K hK => ?_
         | refine M_cons fun K hK => ?_
         | (refine hK _ ?_; clear hK K)
         | (refine hY _ ?_; clear hX hY X Y)
         | refine wp2_block ?_
         | refine wp2_canon (ops := ⟨some 72, _, _⟩ :: _) [(14, 79014)] ?_
         | refine wp2_canon (ops := ⟨some 86, _, _⟩ :: _) [(13, 79085)] ?_
         | refine wp2_region ?_
         | refine wp2_cond fun X Y hX hY => ?_
         | (refine condK_of (fun c => ?_) (fun c => ?_) <;> (try simp [-List.length_eq_zero_iff] at c))
         | simp (maxSteps := 4000000) (disch := omega) [hB.s2, hB.s3, hB.o3, hB.s8, hB.o8, hB.o33, hB.s9, hB.o35, hB.s10, hB.o37, hB.s12, s13, gd, hxm, mk1, makes, cellR])
        all_goals first | omega | skip
        refine wp2_loop _ (rd g.first (x.v + 1) - rd g.first x.v).toNat ?_ (ds_l1 (e := e) (t := t) (st0 := st0) (don := don.set x.v.toNat true) (order := order ++ [x.v]) (x := x) (Z := (m : Int) - 1) h h0 h1 hc (by omega) ?_)
        · refine ⟨best, has, l3', n3, rd g.first x.v, ?_, by simp, by simp [cellR], by simp, ⟨by simp [p3.v], by simp [p3.r], p3.le⟩, e3, ?_, dt, Int.le_refl _, ar.2.1, ?_, ?_⟩
          · exact ⟨⟨by simp [hB.s1], by simp [hB.s2], by simp [hB.s3], by simp [hB.s6], by simp [hB.s7], by simp [hB.s8], by simp [hB.s10], by simp [hB.s11], by simp [ordV, he], by simp [hB.o3], by simp [hB.o6], by simp [hB.o8], by simp [hB.o33], by simp [hB.o37], fun _ => by simp [he]⟩, by simp [hB.s9], by simp [hB.s12], by simp [hB.o35]⟩
          · (repeat' first | exact q3 | exact q3 _ | refine Keep.put ?_ _ _ | refine Keep.setOb ?_ (by first | rfl | simp) _ | refine Keep.kill hc ?_ (by first | rfl | simp) | refine Keep.ren hc ?_ (by first | rfl | simp) | refine Keep.ren1 hc ?_ (by first | rfl | simp) | refine Keep.kill1 hc ?_ (by first | rfl | simp))
          · rw [re]
            omega
          · omega
        · intro s best' has' l' n' hB' p' hH' q' d' hz'
          repeat' (first
           | simp (maxSteps := 4000000) (disch := omega) [])
          have r1 := rest_le g h (don.set x.v.toNat true)
          refine hN (n' + rest g (don.set x.v.toNat true) g.edgeOf.length).toNat _ (by omega) ⟨best', has', don.set x.v.toNat true, order ++ [x.v], l', n', hB', p', hH', q', d', by omega, by omega⟩
      · have s13 : s3.tm 13 = .row (79085, 0) 1 0 order.length := by rw [hB.s13]; unfold ordV; rw [if_neg ho]
        have o85 := hB.o85 ho
        repeat' (first
         | refine wp2_seq fun K hK => ?_
         | refine M_cons fun K hK => ?_
         | (refine hK _ ?_; clear hK K)
         | (refine hY _ ?_; clear hX hY X Y)
         | refine wp2_block ?_
         | refine wp2_canon (ops := ⟨some 72, _, _⟩ :: _) [(14, 79014)] ?_
         | refine wp2_canon (ops := ⟨some 86, _, _⟩ :: _) [(13, 79085)] ?_
         | refine wp2_region ?_
         | refine wp2_cond fun X Y hX hY => ?_
         | (refine condK_of (fun c => ?_) (fun c => ?_) <;> (try simp [-List.length_eq_zero_iff] at c))
         | simp (maxSteps := 4000000) (disch := omega) [hB.s2, hB.s3, hB.o3, hB.s8, hB.o8, hB.o33, hB.s9, hB.o35, hB.s10, hB.o37, hB.s12, s13, o85, gd, hxm, mk1, makes, cellR])
        all_goals first | omega | skip
        refine wp2_loop _ (rd g.first (x.v + 1) - rd g.first x.v).toNat ?_ (ds_l1 (e := e) (t := t) (st0 := st0) (don := don.set x.v.toNat true) (order := order ++ [x.v]) (x := x) (Z := (m : Int) - 1) h h0 h1 hc (by omega) ?_)
        · refine ⟨best, has, l3', n3, rd g.first x.v, ?_, by simp, by simp [cellR], by simp, ⟨by simp [p3.v], by simp [p3.r], p3.le⟩, e3, ?_, dt, Int.le_refl _, ar.2.1, ?_, ?_⟩
          · exact ⟨⟨by simp [hB.s1], by simp [hB.s2], by simp [hB.s3], by simp [hB.s6], by simp [hB.s7], by simp [hB.s8], by simp [hB.s10], by simp [hB.s11], by simp [ordV], by simp [hB.o3], by simp [hB.o6], by simp [hB.o8], by simp [hB.o33], by simp [hB.o37], fun _ => by simp⟩, by simp [hB.s9], by simp [hB.s12], by simp [hB.o35]⟩
          · (repeat' first | exact q3 | exact q3 _ | refine Keep.put ?_ _ _ | refine Keep.setOb ?_ (by first | rfl | simp) _ | refine Keep.kill hc ?_ (by first | rfl | simp) | refine Keep.ren hc ?_ (by first | rfl | simp) | refine Keep.ren1 hc ?_ (by first | rfl | simp) | refine Keep.kill1 hc ?_ (by first | rfl | simp))
          · rw [re]
            omega
          · omega
        · intro s best' has' l' n' hB' p' hH' q' d' hz'
          repeat' (first
           | simp (maxSteps := 4000000) (disch := omega) [])
          have r1 := rest_le g h (don.set x.v.toNat true)
          refine hN (n' + rest g (don.set x.v.toNat true) g.edgeOf.length).toNat _ (by omega) ⟨best', has', don.set x.v.toNat true, order ++ [x.v], l', n', hB', p', hH', q', d', by omega, by omega⟩
end Cal

/- impl.shortest: the goal. -/
set_option linter.unusedSimpArgs false
set_option linter.unusedVariables false
namespace Cal
open Go Go.Proofs
set_option maxRecDepth 100000
set_option maxHeartbeats 0 in
theorem ds_l2 {g : Gr} {e t : Int} (h : VG g) (h0 : 0 ≤ e) (h1 : e < g.start.length) {st0 : St} (hc : st0.Calm F0 F0) {best : List Rc} {has : List Bool} {order : List Int} (fd : FD g e best has order) {Q : Ex → St → Prop}
    (hE : ∀ (s : St) (q : Rc), SC g e t best has order s → s.tm 18 = .ptr (79018, 0) 0 0 → s.ob (79018, 0) = some (.var (cellR q)) → Keep F0 st0 s → GL g t best has g.edgeOf.length q → Q .normal s)
    (m : Nat) (s : St) (hs : (fun (m : Nat) (s : St) => ∃ (q : Rc) (i : Nat), SC g e t best has order s ∧ s.tm 18 = .ptr (79018, 0) 0 0 ∧ s.ob (79018, 0) = some (.var (cellR q)) ∧ s.tm 169 = .t (.v (.int .i64 g.edgeOf.length)) ∧ s.tm 170 = .t (.v (.int .i64 i)) ∧ Keep F0 st0 s ∧ GL g t best has i q ∧ i ≤ g.edgeOf.length ∧ m = g.edgeOf.length - i) m s) (K' : St → Prop)
    (hN : ∀ (m' : Nat) (s' : St), m' < m → (fun (m : Nat) (s : St) => ∃ (q : Rc) (i : Nat), SC g e t best has order s ∧ s.tm 18 = .ptr (79018, 0) 0 0 ∧ s.ob (79018, 0) = some (.var (cellR q)) ∧ s.tm 169 = .t (.v (.int .i64 g.edgeOf.length)) ∧ s.tm 170 = .t (.v (.int .i64 i)) ∧ Keep F0 st0 s ∧ GL g t best has i q ∧ i ≤ g.edgeOf.length ∧ m = g.edgeOf.length - i) m' s' → K' s') :
    wp2 Try.prog k88_l2 (thenQ K' (inBlk 4 Q)) s := by
  obtain ⟨q, i, hB, s18, o18, s169, s170, q1, gl, hi, rfl⟩ := hs
  have l3 := h.l3
  have lb := fd.lb
  have lh := fd.lh
  unfold cellR at o18
  unfold k88_l2
  by_cases hlt : i < g.edgeOf.length
  · have gi := recRow_getN encQ best i (by omega)
    by_cases he : rd g.edgeOf i = t
    · have he' : (rd g.edgeOf i != t) = false := by simp [he]
      cases hh : rdb has i with
      | true =>
        have nn : ∀ v : Nat, v < i → rdb has v = true → 0 ≤ (nth best v).a := fun v hv hx => (fd.nn h h0 h1 (v := v) ⟨by omega, by omega⟩ hx).1
        by_cases hq : q.a < 0
        · have := gl.yes he hh (.inl hq) nn
          repeat' (first
           | refine wp2_seq fun K hK => ?_
           | refine M_cons fun K hK => ?_
           | (refine hK _ ?_; clear hK K)
           | (refine hX _ ?_; clear hX hY X Y)
           | (refine hY _ ?_; clear hX hY X Y)
           | refine wp2_block ?_
           | refine wp2_region ?_
           | refine wp2_cond fun X Y hX hY => ?_
           | (refine condK_of (fun c => ?_) (fun c => ?_) <;> (try simp [-List.length_eq_zero_iff] at c))
           | simp (maxSteps := 4000000) (disch := omega) [hB.s2, hB.s3, hB.o3, hB.s8, hB.o8, hB.o33, hB.s10, hB.o37, s18, o18, s169, s170, hlt, gi, encQ, he', hh, hq])
          all_goals first | omega | skip
          refine hN (g.edgeOf.length - (i + 1)) _ (by omega) ⟨nth best i, i + 1, ?_, by simp [s18], by simp [o18, cellR], by simp [s169], by simp, ?_, this, by omega, rfl⟩
          · exact ⟨by simp [hB.s1], by simp [hB.s2], by simp [hB.s3], by simp [hB.s6], by simp [hB.s7], by simp [hB.s8], by simp [hB.s10], by simp [hB.s11], by simp [hB.s13], by simp [hB.o3], by simp [hB.o6], by simp [hB.o8], by simp [hB.o33], by simp [hB.o37], fun hn => by simp [hB.o85 hn]⟩
          · (repeat' first | exact q1 | exact q1 _ | refine Keep.put ?_ _ _ | refine Keep.setOb ?_ (by first | rfl | simp) _ | refine Keep.kill hc ?_ (by first | rfl | simp) | refine Keep.ren hc ?_ (by first | rfl | simp) | refine Keep.ren1 hc ?_ (by first | rfl | simp) | refine Keep.kill1 hc ?_ (by first | rfl | simp))
        · by_cases h2 : (nth best i).a < q.a
          · have := gl.yes he hh (.inr (.inl h2)) nn
            repeat' (first
             | refine wp2_seq fun K hK => ?_
             | refine M_cons fun K hK => ?_
             | (refine hK _ ?_; clear hK K)
             | (refine hX _ ?_; clear hX hY X Y)
             | (refine hY _ ?_; clear hX hY X Y)
             | refine wp2_block ?_
             | refine wp2_region ?_
             | refine wp2_cond fun X Y hX hY => ?_
             | (refine condK_of (fun c => ?_) (fun c => ?_) <;> (try simp [-List.length_eq_zero_iff] at c))
             | simp (maxSteps := 4000000) (disch := omega) [hB.s2, hB.s3, hB.o3, hB.s8, hB.o8, hB.o33, hB.s10, hB.o37, s18, o18, s169, s170, hlt, gi, encQ, he', hh, hq, h2])
            all_goals first | omega | skip
            refine hN (g.edgeOf.length - (i + 1)) _ (by omega) ⟨nth best i, i + 1, ?_, by simp [s18], by simp [o18, cellR], by simp [s169], by simp, ?_, this, by omega, rfl⟩
            · exact ⟨by simp [hB.s1], by simp [hB.s2], by simp [hB.s3], by simp [hB.s6], by simp [hB.s7], by simp [hB.s8], by simp [hB.s10], by simp [hB.s11], by simp [hB.s13], by simp [hB.o3], by simp [hB.o6], by simp [hB.o8], by simp [hB.o33], by simp [hB.o37], fun hn => by simp [hB.o85 hn]⟩
            · (repeat' first | exact q1 | exact q1 _ | refine Keep.put ?_ _ _ | refine Keep.setOb ?_ (by first | rfl | simp) _ | refine Keep.kill hc ?_ (by first | rfl | simp) | refine Keep.ren hc ?_ (by first | rfl | simp) | refine Keep.ren1 hc ?_ (by first | rfl | simp) | refine Keep.kill1 hc ?_ (by first | rfl | simp))
          · by_cases h3 : (nth best i).a = q.a
            · have h3' : ((nth best (i : Int)).a == q.a) = true := by simpa using h3
              by_cases h4 : (nth best i).b < q.b
              · have := gl.yes he hh (.inr (.inr ⟨h3, h4⟩)) nn
                repeat' (first
                 | refine wp2_seq fun K hK => ?_
                 | refine M_cons fun K hK => ?_
                 | (refine hK _ ?_; clear hK K)
                 | (refine hX _ ?_; clear hX hY X Y)
                 | (refine hY _ ?_; clear hX hY X Y)
                 | refine wp2_block ?_
                 | refine wp2_region ?_
                 | refine wp2_cond fun X Y hX hY => ?_
                 | (refine condK_of (fun c => ?_) (fun c => ?_) <;> (try simp [-List.length_eq_zero_iff] at c))
                 | simp (maxSteps := 4000000) (disch := omega) [hB.s2, hB.s3, hB.o3, hB.s8, hB.o8, hB.o33, hB.s10, hB.o37, s18, o18, s169, s170, hlt, gi, encQ, he', hh, hq, h2, h3', h4])
                all_goals first | omega | skip
                refine hN (g.edgeOf.length - (i + 1)) _ (by omega) ⟨nth best i, i + 1, ?_, by simp [s18], by simp [o18, cellR], by simp [s169], by simp, ?_, this, by omega, rfl⟩
                · exact ⟨by simp [hB.s1], by simp [hB.s2], by simp [hB.s3], by simp [hB.s6], by simp [hB.s7], by simp [hB.s8], by simp [hB.s10], by simp [hB.s11], by simp [hB.s13], by simp [hB.o3], by simp [hB.o6], by simp [hB.o8], by simp [hB.o33], by simp [hB.o37], fun hn => by simp [hB.o85 hn]⟩
                · (repeat' first | exact q1 | exact q1 _ | refine Keep.put ?_ _ _ | refine Keep.setOb ?_ (by first | rfl | simp) _ | refine Keep.kill hc ?_ (by first | rfl | simp) | refine Keep.ren hc ?_ (by first | rfl | simp) | refine Keep.ren1 hc ?_ (by first | rfl | simp) | refine Keep.kill1 hc ?_ (by first | rfl | simp))
              · have := gl.keep he hh (by unfold Lt; omega)
                repeat' (first
                 | refine wp2_seq fun K hK => ?_
                 | refine M_cons fun K hK => ?_
                 | (refine hK _ ?_; clear hK K)
                 | (refine hX _ ?_; clear hX hY X Y)
                 | (refine hY _ ?_; clear hX hY X Y)
                 | refine wp2_block ?_
                 | refine wp2_region ?_
                 | refine wp2_cond fun X Y hX hY => ?_
                 | (refine condK_of (fun c => ?_) (fun c => ?_) <;> (try simp [-List.length_eq_zero_iff] at c))
                 | simp (maxSteps := 4000000) (disch := omega) [hB.s2, hB.s3, hB.o3, hB.s8, hB.o8, hB.o33, hB.s10, hB.o37, s18, o18, s169, s170, hlt, gi, encQ, he', hh, hq, h2, h3', h4])
                all_goals first | omega | skip
                refine hN (g.edgeOf.length - (i + 1)) _ (by omega) ⟨q, i + 1, ?_, by simp [s18], by simp [o18, cellR], by simp [s169], by simp, ?_, this, by omega, rfl⟩
                · exact ⟨by simp [hB.s1], by simp [hB.s2], by simp [hB.s3], by simp [hB.s6], by simp [hB.s7], by simp [hB.s8], by simp [hB.s10], by simp [hB.s11], by simp [hB.s13], by simp [hB.o3], by simp [hB.o6], by simp [hB.o8], by simp [hB.o33], by simp [hB.o37], fun hn => by simp [hB.o85 hn]⟩
                · (repeat' first | exact q1 | exact q1 _ | refine Keep.put ?_ _ _ | refine Keep.setOb ?_ (by first | rfl | simp) _ | refine Keep.kill hc ?_ (by first | rfl | simp) | refine Keep.ren hc ?_ (by first | rfl | simp) | refine Keep.ren1 hc ?_ (by first | rfl | simp) | refine Keep.kill1 hc ?_ (by first | rfl | simp))
            · have h3' : ((nth best (i : Int)).a == q.a) = false := by simpa using h3
              have := gl.keep he hh (by unfold Lt; omega)
              repeat' (first
               | refine wp2_seq fun K hK => ?_
               | refine M_cons fun K hK => ?_
               | (refine hK _ ?_; clear hK K)
               | (refine hX _ ?_; clear hX hY X Y)
               | (refine hY _ ?_; clear hX hY X Y)
               | refine wp2_block ?_
               | refine wp2_region ?_
               | refine wp2_cond fun X Y hX hY => ?_
               | (refine condK_of (fun c => ?_) (fun c => ?_) <;> (try simp [-List.length_eq_zero_iff] at c))
               | simp (maxSteps := 4000000) (disch := omega) [hB.s2, hB.s3, hB.o3, hB.s8, hB.o8, hB.o33, hB.s10, hB.o37, s18, o18, s169, s170, hlt, gi, encQ, he', hh, hq, h2, h3'])
              all_goals first | omega | skip
              refine hN (g.edgeOf.length - (i + 1)) _ (by omega) ⟨q, i + 1, ?_, by simp [s18], by simp [o18, cellR], by simp [s169], by simp, ?_, this, by omega, rfl⟩
              · exact ⟨by simp [hB.s1], by simp [hB.s2], by simp [hB.s3], by simp [hB.s6], by simp [hB.s7], by simp [hB.s8], by simp [hB.s10], by simp [hB.s11], by simp [hB.s13], by simp [hB.o3], by simp [hB.o6], by simp [hB.o8], by simp [hB.o33], by simp [hB.o37], fun hn => by simp [hB.o85 hn]⟩
              · (repeat' first | exact q1 | exact q1 _ | refine Keep.put ?_ _ _ | refine Keep.setOb ?_ (by first | rfl | simp) _ | refine Keep.kill hc ?_ (by first | rfl | simp) | refine Keep.ren hc ?_ (by first | rfl | simp) | refine Keep.ren1 hc ?_ (by first | rfl | simp) | refine Keep.kill1 hc ?_ (by first | rfl | simp))
      | false =>
        have := gl.no (i := i) (by rw [hh]; simp)
        repeat' (first
         | refine wp2_seq fun K hK => ?_
         | refine M_cons fun K hK => ?_
         | (refine hK _ ?_; clear hK K)
         | (clear hK K; refine hK _ ?_; clear hK K)
         | (refine hX _ ?_; clear hX hY X Y)
         | refine wp2_block ?_
         | refine wp2_region ?_
         | refine wp2_cond fun X Y hX hY => ?_
         | (refine condK_of (fun c => ?_) (fun c => ?_) <;> (try simp [-List.length_eq_zero_iff] at c))
         | simp (maxSteps := 4000000) (disch := omega) [hB.s2, hB.s3, hB.o3, hB.s8, hB.o8, hB.o33, hB.s10, hB.o37, s18, o18, s169, s170, hlt, gi, encQ, he', hh])
        all_goals first | omega | skip
        refine hN (g.edgeOf.length - (i + 1)) _ (by omega) ⟨q, i + 1, ?_, by simp [s18], by simp [o18, cellR], by simp [s169], by simp, ?_, this, by omega, rfl⟩
        · exact ⟨by simp [hB.s1], by simp [hB.s2], by simp [hB.s3], by simp [hB.s6], by simp [hB.s7], by simp [hB.s8], by simp [hB.s10], by simp [hB.s11], by simp [hB.s13], by simp [hB.o3], by simp [hB.o6], by simp [hB.o8], by simp [hB.o33], by simp [hB.o37], fun hn => by simp [hB.o85 hn]⟩
        · (repeat' first | exact q1 | exact q1 _ | refine Keep.put ?_ _ _ | refine Keep.setOb ?_ (by first | rfl | simp) _ | refine Keep.kill hc ?_ (by first | rfl | simp) | refine Keep.ren hc ?_ (by first | rfl | simp) | refine Keep.ren1 hc ?_ (by first | rfl | simp) | refine Keep.kill1 hc ?_ (by first | rfl | simp))
    · have he' : (rd g.edgeOf i != t) = true := by simp [he]
      have := gl.no (i := i) (fun hx => he hx.1)
      repeat' (first
       | refine wp2_seq fun K hK => ?_
       | refine M_cons fun K hK => ?_
       | (refine hK _ ?_; clear hK K)
       | (clear hK K; refine hK _ ?_; clear hK K)
       | (refine hX _ ?_; clear hX hY X Y)
       | refine wp2_block ?_
       | refine wp2_region ?_
       | refine wp2_cond fun X Y hX hY => ?_
       | (refine condK_of (fun c => ?_) (fun c => ?_) <;> (try simp [-List.length_eq_zero_iff] at c))
       | simp (maxSteps := 4000000) (disch := omega) [hB.s2, hB.s3, hB.o3, hB.s8, hB.o8, hB.o33, hB.s10, hB.o37, s18, o18, s169, s170, hlt, gi, encQ, he'])
      all_goals first | omega | skip
      refine hN (g.edgeOf.length - (i + 1)) _ (by omega) ⟨q, i + 1, ?_, by simp [s18], by simp [o18, cellR], by simp [s169], by simp, ?_, this, by omega, rfl⟩
      · exact ⟨by simp [hB.s1], by simp [hB.s2], by simp [hB.s3], by simp [hB.s6], by simp [hB.s7], by simp [hB.s8], by simp [hB.s10], by simp [hB.s11], by simp [hB.s13], by simp [hB.o3], by simp [hB.o6], by simp [hB.o8], by simp [hB.o33], by simp [hB.o37], fun hn => by simp [hB.o85 hn]⟩
      · (repeat' first | exact q1 | exact q1 _ | refine Keep.put ?_ _ _ | refine Keep.setOb ?_ (by first | rfl | simp) _ | refine Keep.kill hc ?_ (by first | rfl | simp) | refine Keep.ren hc ?_ (by first | rfl | simp) | refine Keep.ren1 hc ?_ (by first | rfl | simp) | refine Keep.kill1 hc ?_ (by first | rfl | simp))
  · obtain rfl : i = g.edgeOf.length := by omega
    repeat' (first
     | refine wp2_seq fun K hK => ?_
     | refine M_cons fun K hK => ?_
     | (refine hK _ ?_; clear hK K)
     | (refine hY _ ?_; clear hX hY X Y)
     | refine wp2_region ?_
     | refine wp2_cond fun X Y hX hY => ?_
     | (refine condK_of (fun c => ?_) (fun c => ?_) <;> (try simp [-List.length_eq_zero_iff] at c))
     | simp (maxSteps := 4000000) (disch := omega) [hB.s2, hB.s3, hB.o3, hB.s8, hB.o8, hB.o33, hB.s10, hB.o37, s18, o18, s169, s170])
    all_goals first | omega | skip
    refine hE _ q ?_ (by simp [s18]) (by simp [o18, cellR]) ?_ gl
    · exact ⟨by simp [hB.s1], by simp [hB.s2], by simp [hB.s3], by simp [hB.s6], by simp [hB.s7], by simp [hB.s8], by simp [hB.s10], by simp [hB.s11], by simp [hB.s13], by simp [hB.o3], by simp [hB.o6], by simp [hB.o8], by simp [hB.o33], by simp [hB.o37], fun hn => by simp [hB.o85 hn]⟩
    · (repeat' first | exact q1 | exact q1 _ | refine Keep.put ?_ _ _ | refine Keep.setOb ?_ (by first | rfl | simp) _ | refine Keep.kill hc ?_ (by first | rfl | simp) | refine Keep.ren hc ?_ (by first | rfl | simp) | refine Keep.ren1 hc ?_ (by first | rfl | simp) | refine Keep.kill1 hc ?_ (by first | rfl | simp))
end Cal

/- impl.shortest: what is good. -/
set_option linter.unusedSimpArgs false
set_option linter.unusedVariables false
namespace Cal
open Go Go.Proofs
set_option maxRecDepth 100000
theorem FD.bound {g : Gr} {s : Int} {best : List Rc} {has : List Bool} {order : List Int} (h : VG g) (h0 : 0 ≤ s) (h1 : s < g.start.length) (fd : FD g s best has order) {v : Int} (hv : inV g v) (hh : rdb has v = true) : 0 ≤ (nth best v).a ∧ (nth best v).a ≤ 100000000000 ∧ 1 ≤ (nth best v).b ∧ (nth best v).b ≤ 6001 := by
  have l3 := h.l3
  have a := fd.bn v hv hh
  obtain ⟨b, c, d⟩ := (fd.real v hv hh).2.bound h h0 h1 (by omega)
  exact ⟨b, c, d, by omega⟩
set_option maxHeartbeats 0 in
/-- The closure is called. -/
theorem callI_tight {g : Gr} (h : VG g) {e : Int} (h0 : 0 ≤ e) (h1 : e < g.start.length) {best : List Rc} {has : List Bool} {order : List Int} {q : Rc} {t : Int} (ok : OK g e t best has order q) {x k : Int} (hx : inV g x) (hh : rdb has x = true) (k1 : rd g.first x ≤ k) (k2 : k < rd g.first (x + 1))
    {st0 st : St} (hc : st0.Calm F0 F0) (q4 : Keep F0 st0 st) (hB : SC g e t best has order st) {d : Option Nat} {K : St → Prop} {a b c : Nat} {ts' : Array TypeId} (ts : List Nat) (L : List (Id × Ob)) (ha : st.tm a = .clo 150 [] [.ptr (79003, 0) 0 0, .ptr (79008, 0) 0 0]) (hb : st.tm b = .t (.v (.int .i64 x))) (hcc : st.tm c = .t (.v (.int .i64 k)))
    (h2 : ∀ t ∈ ts, (st.tm t).free fun id => ¬ calm [] id) (hL : ∀ p ∈ L, st.ob p.1 = some p.2) (hLo : ∀ p ∈ L, AV.frees (fun id => ¬ calm [] id) p.2.avs ∧ calm [] p.1)
    (hK : ∀ s3, Keep F0 st0 s3 → SC g e t best has order s3 → (∀ t ∈ ts, s3.tm t = st.tm t) → (∀ p ∈ L, s3.ob p.1 = some p.2) → K (s3.put d (.t (.v (.bool (decide (Tight g best x k))))))) :
    CallI Try.prog d (.call ⟨.value (.tmp a), #[.tmp b, .tmp c], ts'⟩) st K := by
  obtain ⟨r1, r2, r3⟩ := ok.reach hx hh k1 k2
  have bx := ok.toFD.bound h h0 h1 hx hh
  have by' := ok.toFD.bound h h0 h1 r1 r2
  have en := entersAt_clo (P := Try.prog) (st := st.only ([a, b, c] ++ (ts ++ ts0)) fun id => calm F0 id ∨ ∃ o, (id, o) ∈ L ++ scL g best has order) (t := a) (f := 150) (cs := []) (ds := [.ptr (79003, 0) 0 0, .ptr (79008, 0) 0 0]) (xs := #[.tmp b, .tmp c]) (ts := ts') ⟨Try.f150, by kernel_rfl, by kernel_rfl, rfl⟩ (by simp [ha])
  have ev : ([] : List AV) ++ ((#[Operand.tmp b, Operand.tmp c] : Array Operand).toList.map (st.only ([a, b, c] ++ (ts ++ ts0)) fun id => calm F0 id ∨ ∃ o, (id, o) ∈ L ++ scL g best has order).ev ++ [.ptr (79003, 0) 0 0, .ptr (79008, 0) 0 0]) = [.t (.v (.int .i64 x)), .t (.v (.int .i64 k)), .ptr (79003, 0) 0 0, .ptr (79008, 0) 0 0] := by
    simp [hb, hcc]
  rw [ev] at en
  refine callI_pure ([a, b, c] ++ (ts ++ ts0)) (L ++ scL g best has order) en (v := .t (.v (.bool (decide (Tight g best x k))))) ?_ hc q4 ?_ ?_ ?_ ?_
  · intro s' hcs hob R hR
    refine tight_inl h ok.lb hx k1 k2 (fun v hv => ?_) s' hcs (hob ((79003, 0), varG g) (by simp [scL])) (hob ((79008, 0), .var [.row (79033, 0) 3 0 best.length]) (by simp [scL])) (hob ((79033, 0), .row 3 (recRow encQ best)) (by simp [scL])) hR
    rcases hv with rfl | rfl
    · omega
    · omega
  · intro tt ht
    rcases List.mem_append.1 ht with ht | ht
    · simp at ht
      rcases ht with rfl | rfl | rfl
      · rw [ha]; simp [AV.free, AV.frees, calm]
      · rw [hb]; simp [AV.free]
      · rw [hcc]; simp [AV.free]
    · rcases List.mem_append.1 ht with ht | ht
      · exact h2 tt ht
      · exact free_pure (hB.free tt ht)
  · intro p hp
    rcases List.mem_append.1 hp with hp | hp
    · exact hL p hp
    · exact hB.list p hp
  · intro p hp
    rcases List.mem_append.1 hp with hp | hp
    · exact hLo p hp
    · obtain ⟨a, b⟩ := scL_ok _ _ _ _ p hp
      exact ⟨frees_pure a, b.1, b.2.1, by simp⟩
  · intro s3 q3 tm3 ob3
    exact hK s3 q3 (hB.back (fun tt ht => tm3 tt (by simp [ht])) (fun p hp => ob3 p (by simp [hp]))) (fun tt ht => tm3 tt (by simp [ht])) (fun p hp => ob3 p (by simp [hp]))
set_option maxHeartbeats 0 in
theorem ds_l4 {g : Gr} {e t : Int} (h : VG g) (h0 : 0 ≤ e) (h1 : e < g.start.length) {st0 : St} (hc : st0.Calm F0 F0) {best : List Rc} {has : List Bool} {order : List Int} {q : Rc} (ok : OK g e t best has order q) {i : Nat} (hi : i < order.length) {Q : Ex → St → Prop}
    (hE : ∀ (s : St) (good : List Bool), SC g e t best has order s → s.tm 18 = .ptr (79018, 0) 0 0 → s.ob (79018, 0) = some (.var (cellR q)) → s.tm 21 = .row (79021, 0) 1 0 good.length → s.ob (79021, 0) = some (.row 1 (boolRow good)) → s.tm 22 = .clo 150 [] [.ptr (79003, 0) 0 0, .ptr (79008, 0) 0 0] → s.tm 23 = .t (.v (.int .i64 i)) → Keep F0 st0 s → GB g t best order q i good → Q .normal s)
    (m : Nat) (s : St) (hs : (fun (m : Nat) (s : St) => ∃ (good : List Bool) (k : Int), SC g e t best has order s ∧ s.tm 18 = .ptr (79018, 0) 0 0 ∧ s.ob (79018, 0) = some (.var (cellR q)) ∧ s.tm 21 = .row (79021, 0) 1 0 good.length ∧ s.ob (79021, 0) = some (.row 1 (boolRow good)) ∧ s.tm 22 = .clo 150 [] [.ptr (79003, 0) 0 0, .ptr (79008, 0) 0 0] ∧ s.tm 23 = .t (.v (.int .i64 i)) ∧ s.tm 24 = .t (.v (.int .i64 (rd order i))) ∧ s.tm 25 = .t (.v (.int .i64 k)) ∧ Keep F0 st0 s ∧ GX g t best order q i (rd order i) k good ∧ rd g.first (rd order i) ≤ k ∧ k ≤ rd g.first (rd order i + 1) ∧ (m : Int) = rd g.first (rd order i + 1) - k) m s) (K' : St → Prop)
    (hN : ∀ (m' : Nat) (s' : St), m' < m → (fun (m : Nat) (s : St) => ∃ (good : List Bool) (k : Int), SC g e t best has order s ∧ s.tm 18 = .ptr (79018, 0) 0 0 ∧ s.ob (79018, 0) = some (.var (cellR q)) ∧ s.tm 21 = .row (79021, 0) 1 0 good.length ∧ s.ob (79021, 0) = some (.row 1 (boolRow good)) ∧ s.tm 22 = .clo 150 [] [.ptr (79003, 0) 0 0, .ptr (79008, 0) 0 0] ∧ s.tm 23 = .t (.v (.int .i64 i)) ∧ s.tm 24 = .t (.v (.int .i64 (rd order i))) ∧ s.tm 25 = .t (.v (.int .i64 k)) ∧ Keep F0 st0 s ∧ GX g t best order q i (rd order i) k good ∧ rd g.first (rd order i) ≤ k ∧ k ≤ rd g.first (rd order i + 1) ∧ (m : Int) = rd g.first (rd order i + 1) - k) m' s' → K' s') :
    wp2 Try.prog k88_l4 (thenQ K' (inBlk 8 Q)) s := by
  obtain ⟨good, k, hB, s18, o18, s21, o21, s22, s23, s24, s25, q1, gx, hk1, hk2, hm⟩ := hs
  have l3 := h.l3
  have l5 := h.l5
  have l6 := h.l6
  have l7 := h.l7
  have lb := ok.lb
  have lg := gx.lg
  obtain ⟨xv, xh, _⟩ := ok.here hi
  have rdx := gx.read ok hi (k := k) hk1
  have gyes := gx.yes ok hi hk1
  have gno := gx.no
  have gend := GX.close (good := good) ok hi
  obtain ⟨x0, x1⟩ := xv
  have ar := h.arcsOf x0 x1
  have hxm : max (rd order i) 0 = rd order i := by omega
  unfold k88_l4
  by_cases hlt : k < rd g.first (rd order i + 1)
  · have rdx := rdx hlt
    obtain ⟨a0, a1, a2, a3, a4, a5⟩ := h.arcOf x0 x1 hk1 hlt
    have hym : max (rd g.to k) 0 = rd g.to k := by omega
    repeat' (first
     | refine wp2_seq fun K hK => ?_
     | refine M_cons fun K hK => ?_
     | (refine hK _ ?_; clear hK K)
     | (refine hX _ ?_; clear hX hY X Y)
     | refine wp2_block ?_
     | refine wp2_inl (mk := [283]) 3 rfl ?_
     | refine wp2_region ?_
     | refine wp2_cond fun X Y hX hY => ?_
     | (refine condK_of (fun c => ?_) (fun c => ?_) <;> (try simp [-List.length_eq_zero_iff] at c))
     | simp (maxSteps := 4000000) (disch := omega) [hB.s2, hB.s3, hB.o3, hB.s8, hB.o8, hB.o33, hB.s10, hB.o37, s18, o18, s21, o21, s22, s23, s24, s25, hlt, mk1, makes])
    all_goals first | omega | skip
    generalize hst : St.put _ (some 282) _ = st4
    have q4 : Keep F0 st0 st4 := by
      rw [← hst]
      (repeat' first | exact q1 | exact q1 _ | refine Keep.put ?_ _ _ | refine Keep.setOb ?_ (by first | rfl | simp) _ | refine Keep.kill hc ?_ (by first | rfl | simp) | refine Keep.ren hc ?_ (by first | rfl | simp) | refine Keep.ren1 hc ?_ (by first | rfl | simp) | refine Keep.kill1 hc ?_ (by first | rfl | simp))
    have hB4 : SC g e t best has order st4 := by
      rw [← hst]
      exact ⟨by simp [hB.s1], by simp [hB.s2], by simp [hB.s3], by simp [hB.s6], by simp [hB.s7], by simp [hB.s8], by simp [hB.s10], by simp [hB.s11], by simp [hB.s13], by simp [hB.o3], by simp [hB.o6], by simp [hB.o8], by simp [hB.o33], by simp [hB.o37], fun hn => by simp [hB.o85 hn]⟩
    have u : st4.tm 18 = .ptr (79018, 0) 0 0 ∧ st4.tm 21 = .row (79021, 0) 1 0 good.length ∧ st4.tm 22 = .clo 150 [] [.ptr (79003, 0) 0 0, .ptr (79008, 0) 0 0] ∧ st4.tm 23 = .t (.v (.int .i64 i)) ∧ st4.tm 24 = .t (.v (.int .i64 (rd order i))) ∧ st4.tm 25 = .t (.v (.int .i64 k)) ∧ st4.tm 280 = .clo 150 [] [.ptr (79003, 0) 0 0, .ptr (79008, 0) 0 0] ∧ st4.tm 281 = .t (.v (.int .i64 (rd order i))) ∧ st4.tm 282 = .t (.v (.int .i64 k)) ∧ st4.ob (79018, 0) = some (.var (cellR q)) ∧ st4.ob (79021, 0) = some (.row 1 (boolRow good)) := by
      rw [← hst]
      simp [s18, s21, s22, s23, s24, s25, o18, o21, cellR]
    obtain ⟨u18, u21, u22, u23, u24, u25, u280, u281, u282, v18, v21⟩ := u
    clear hst hB q1 s18 o18 s21 o21 s22 s23 s24 s25
    refine callI_tight h h0 h1 ok ⟨x0, x1⟩ xh hk1 hlt hc q4 hB4 [18, 21, 22, 23, 24, 25] [((79018, 0), .var (cellR q)), ((79021, 0), .row 1 (boolRow good))] u280 u281 u282 (by simp [u18, u21, u22, u23, u24, u25, AV.free, AV.frees, calm]) (by simp [v18, v21]) (by simp [Ob.avs, cellR, AV.frees, AV.free, calm]) ?_
    intro s3 q3 hB tm3 ob3
    have s18 : s3.tm 18 = .ptr (79018, 0) 0 0 := by rw [tm3 18 (by decide), u18]
    have s21 : s3.tm 21 = .row (79021, 0) 1 0 good.length := by rw [tm3 21 (by decide), u21]
    have s22 : s3.tm 22 = .clo 150 [] [.ptr (79003, 0) 0 0, .ptr (79008, 0) 0 0] := by rw [tm3 22 (by decide), u22]
    have s23 : s3.tm 23 = .t (.v (.int .i64 i)) := by rw [tm3 23 (by decide), u23]
    have s24 : s3.tm 24 = .t (.v (.int .i64 (rd order i))) := by rw [tm3 24 (by decide), u24]
    have s25 : s3.tm 25 = .t (.v (.int .i64 k)) := by rw [tm3 25 (by decide), u25]
    have o18 := ob3 ((79018, 0), .var (cellR q)) (by simp)
    have o21 := ob3 ((79021, 0), .row 1 (boolRow good)) (by simp)
    dsimp only at o18 o21
    clear hB4 q4 tm3 ob3 u18 u21 u22 u23 u24 u25 u280 u281 u282 v18 v21
    by_cases ht : Tight g best (rd order i) k
    · have rdx := rdx ht
      cases hg : rdb good (rd g.to k) with
      | true =>
        have := gyes ht (rdx.1 hg)
        repeat' (first
         | refine M_cons fun K hK => ?_
         | (refine hK _ ?_; clear hK K)
         | (refine hX _ ?_; clear hX hY X Y)
         | refine wp2_region ?_
         | refine wp2_cond fun X Y hX hY => ?_
         | (refine condK_of (fun c => ?_) (fun c => ?_) <;> (try simp [-List.length_eq_zero_iff] at c))
         | simp (maxSteps := 4000000) (disch := omega) [hB.s2, hB.s3, hB.o3, hB.s8, hB.o8, hB.o33, hB.s10, hB.o37, s18, o18, s21, o21, s22, s23, s24, s25, ht, hg, hxm, hym, mk1, makes])
        all_goals first | omega | skip
        refine hN (m - 1) _ (by omega) ⟨good.set (rd order i).toNat true, k + 1, ?_, by simp [s18], by simp [o18, cellR], by simp [s21], by simp [o21], by simp [s22], by simp [s23], by simp [s24], by simp, ?_, this, by omega, by omega, by omega⟩
        · exact ⟨by simp [hB.s1], by simp [hB.s2], by simp [hB.s3], by simp [hB.s6], by simp [hB.s7], by simp [hB.s8], by simp [hB.s10], by simp [hB.s11], by simp [hB.s13], by simp [hB.o3], by simp [hB.o6], by simp [hB.o8], by simp [hB.o33], by simp [hB.o37], fun hn => by simp [hB.o85 hn]⟩
        · (repeat' first | exact q3 | exact q3 _ | refine Keep.put ?_ _ _ | refine Keep.setOb ?_ (by first | rfl | simp) _ | refine Keep.kill hc ?_ (by first | rfl | simp) | refine Keep.ren hc ?_ (by first | rfl | simp) | refine Keep.ren1 hc ?_ (by first | rfl | simp) | refine Keep.kill1 hc ?_ (by first | rfl | simp))
      | false =>
        have := gno (fun hx => by rw [rdx.2 hx.2] at hg; cases hg)
        repeat' (first
         | refine M_cons fun K hK => ?_
         | (refine hK _ ?_; clear hK K)
         | (refine hY _ ?_; clear hX hY X Y)
         | refine wp2_region ?_
         | refine wp2_cond fun X Y hX hY => ?_
         | (refine condK_of (fun c => ?_) (fun c => ?_) <;> (try simp [-List.length_eq_zero_iff] at c))
         | simp (maxSteps := 4000000) (disch := omega) [hB.s2, hB.s3, hB.o3, hB.s8, hB.o8, hB.o33, hB.s10, hB.o37, s18, o18, s21, o21, s22, s23, s24, s25, ht, hg, hxm, hym, mk1, makes])
        all_goals first | omega | skip
        refine hN (m - 1) _ (by omega) ⟨good, k + 1, ?_, by simp [s18], by simp [o18, cellR], by simp [s21], by simp [o21], by simp [s22], by simp [s23], by simp [s24], by simp, ?_, this, by omega, by omega, by omega⟩
        · exact ⟨by simp [hB.s1], by simp [hB.s2], by simp [hB.s3], by simp [hB.s6], by simp [hB.s7], by simp [hB.s8], by simp [hB.s10], by simp [hB.s11], by simp [hB.s13], by simp [hB.o3], by simp [hB.o6], by simp [hB.o8], by simp [hB.o33], by simp [hB.o37], fun hn => by simp [hB.o85 hn]⟩
        · (repeat' first | exact q3 | exact q3 _ | refine Keep.put ?_ _ _ | refine Keep.setOb ?_ (by first | rfl | simp) _ | refine Keep.kill hc ?_ (by first | rfl | simp) | refine Keep.ren hc ?_ (by first | rfl | simp) | refine Keep.ren1 hc ?_ (by first | rfl | simp) | refine Keep.kill1 hc ?_ (by first | rfl | simp))
    · have := gno (fun hx => ht hx.1)
      repeat' (first
       | refine M_cons fun K hK => ?_
       | (refine hK _ ?_; clear hK K)
       | (refine hY _ ?_; clear hX hY X Y)
       | refine wp2_region ?_
       | refine wp2_cond fun X Y hX hY => ?_
       | (refine condK_of (fun c => ?_) (fun c => ?_) <;> (try simp [-List.length_eq_zero_iff] at c))
       | simp (maxSteps := 4000000) (disch := omega) [hB.s2, hB.s3, hB.o3, hB.s8, hB.o8, hB.o33, hB.s10, hB.o37, s18, o18, s21, o21, s22, s23, s24, s25, ht, mk1, makes])
      all_goals first | omega | skip
      refine hN (m - 1) _ (by omega) ⟨good, k + 1, ?_, by simp [s18], by simp [o18, cellR], by simp [s21], by simp [o21], by simp [s22], by simp [s23], by simp [s24], by simp, ?_, this, by omega, by omega, by omega⟩
      · exact ⟨by simp [hB.s1], by simp [hB.s2], by simp [hB.s3], by simp [hB.s6], by simp [hB.s7], by simp [hB.s8], by simp [hB.s10], by simp [hB.s11], by simp [hB.s13], by simp [hB.o3], by simp [hB.o6], by simp [hB.o8], by simp [hB.o33], by simp [hB.o37], fun hn => by simp [hB.o85 hn]⟩
      · (repeat' first | exact q3 | exact q3 _ | refine Keep.put ?_ _ _ | refine Keep.setOb ?_ (by first | rfl | simp) _ | refine Keep.kill hc ?_ (by first | rfl | simp) | refine Keep.ren hc ?_ (by first | rfl | simp) | refine Keep.ren1 hc ?_ (by first | rfl | simp) | refine Keep.kill1 hc ?_ (by first | rfl | simp))
  · have ek : k = rd g.first (rd order i + 1) := by omega
    subst ek
    repeat' (first
     | refine wp2_seq fun K hK => ?_
     | refine M_cons fun K hK => ?_
     | (refine hK _ ?_; clear hK K)
     | (refine hY _ ?_; clear hX hY X Y)
     | refine wp2_region ?_
     | refine wp2_cond fun X Y hX hY => ?_
     | (refine condK_of (fun c => ?_) (fun c => ?_) <;> (try simp [-List.length_eq_zero_iff] at c))
     | simp (maxSteps := 4000000) (disch := omega) [hB.s2, hB.s3, hB.o3, hB.s8, hB.o8, hB.o33, hB.s10, hB.o37, s18, o18, s21, o21, s22, s23, s24, s25])
    all_goals first | omega | skip
    refine hE _ good ?_ (by simp [s18]) (by simp [o18, cellR]) (by simp [s21]) (by simp [o21]) (by simp [s22]) (by simp [s23]) ?_ (gend gx)
    · exact ⟨by simp [hB.s1], by simp [hB.s2], by simp [hB.s3], by simp [hB.s6], by simp [hB.s7], by simp [hB.s8], by simp [hB.s10], by simp [hB.s11], by simp [hB.s13], by simp [hB.o3], by simp [hB.o6], by simp [hB.o8], by simp [hB.o33], by simp [hB.o37], fun hn => by simp [hB.o85 hn]⟩
    · (repeat' first | exact q1 | exact q1 _ | refine Keep.put ?_ _ _ | refine Keep.setOb ?_ (by first | rfl | simp) _ | refine Keep.kill hc ?_ (by first | rfl | simp) | refine Keep.ren hc ?_ (by first | rfl | simp) | refine Keep.ren1 hc ?_ (by first | rfl | simp) | refine Keep.kill1 hc ?_ (by first | rfl | simp))
end Cal

/- impl.shortest: what is good, from the end. -/
set_option linter.unusedSimpArgs false
set_option linter.unusedVariables false
namespace Cal
open Go Go.Proofs
set_option maxRecDepth 100000
set_option maxHeartbeats 0 in
theorem ds_l3 {g : Gr} {e t : Int} (h : VG g) (h0 : 0 ≤ e) (h1 : e < g.start.length) {st0 : St} (hc : st0.Calm F0 F0) {best : List Rc} {has : List Bool} {order : List Int} {q : Rc} (ok : OK g e t best has order q) (lo : order.length ≤ 6000) {Q : Ex → St → Prop}
    (hE : ∀ (s : St) (good : List Bool), SC g e t best has order s → s.tm 18 = .ptr (79018, 0) 0 0 → s.ob (79018, 0) = some (.var (cellR q)) → s.tm 21 = .row (79021, 0) 1 0 good.length → s.ob (79021, 0) = some (.row 1 (boolRow good)) → s.tm 22 = .clo 150 [] [.ptr (79003, 0) 0 0, .ptr (79008, 0) 0 0] → Keep F0 st0 s → GB g t best order q 0 good → Q .normal s)
    (m : Nat) (s : St) (hs : (fun (m : Nat) (s : St) => ∃ (good : List Bool), SC g e t best has order s ∧ s.tm 18 = .ptr (79018, 0) 0 0 ∧ s.ob (79018, 0) = some (.var (cellR q)) ∧ s.tm 21 = .row (79021, 0) 1 0 good.length ∧ s.ob (79021, 0) = some (.row 1 (boolRow good)) ∧ s.tm 22 = .clo 150 [] [.ptr (79003, 0) 0 0, .ptr (79008, 0) 0 0] ∧ s.tm 23 = .t (.v (.int .i64 ((m : Int) - 1))) ∧ Keep F0 st0 s ∧ GB g t best order q m good ∧ m ≤ order.length) m s) (K' : St → Prop)
    (hN : ∀ (m' : Nat) (s' : St), m' < m → (fun (m : Nat) (s : St) => ∃ (good : List Bool), SC g e t best has order s ∧ s.tm 18 = .ptr (79018, 0) 0 0 ∧ s.ob (79018, 0) = some (.var (cellR q)) ∧ s.tm 21 = .row (79021, 0) 1 0 good.length ∧ s.ob (79021, 0) = some (.row 1 (boolRow good)) ∧ s.tm 22 = .clo 150 [] [.ptr (79003, 0) 0 0, .ptr (79008, 0) 0 0] ∧ s.tm 23 = .t (.v (.int .i64 ((m : Int) - 1))) ∧ Keep F0 st0 s ∧ GB g t best order q m good ∧ m ≤ order.length) m' s' → K' s') :
    wp2 Try.prog k88_l3 (thenQ K' (inBlk 6 Q)) s := by
  obtain ⟨good, hB, s18, o18, s21, o21, s22, s23, q1, gb, hm⟩ := hs
  have l3 := h.l3
  have l5 := h.l5
  have l6 := h.l6
  have l7 := h.l7
  have lb := ok.lb
  have lg := gb.1
  unfold cellR at o18
  unfold k88_l3
  rcases m with _ | i
  · repeat' (first
   | refine wp2_seq fun K hK => ?_
   | refine M_cons fun K hK => ?_
   | (refine hK _ ?_; clear hK K)
   | (refine hY _ ?_; clear hX hY X Y)
   | refine wp2_region ?_
   | refine wp2_cond fun X Y hX hY => ?_
   | (refine condK_of (fun c => ?_) (fun c => ?_) <;> (try simp [-List.length_eq_zero_iff] at c))
   | simp (maxSteps := 4000000) (disch := omega) [hB.s2, hB.s3, hB.o3, hB.s8, hB.o8, hB.o33, hB.s10, hB.o37, s18, o18, s21, o21, s22, s23])
    all_goals first | omega | skip
    refine hE _ good ?_ (by simp [s18]) (by simp [o18, cellR]) (by simp [s21]) (by simp [o21]) (by simp [s22]) ?_ gb
    · exact ⟨by simp [hB.s1], by simp [hB.s2], by simp [hB.s3], by simp [hB.s6], by simp [hB.s7], by simp [hB.s8], by simp [hB.s10], by simp [hB.s11], by simp [hB.s13], by simp [hB.o3], by simp [hB.o6], by simp [hB.o8], by simp [hB.o33], by simp [hB.o37], fun hn => by simp [hB.o85 hn]⟩
    · (repeat' first | exact q1 | exact q1 _ | refine Keep.put ?_ _ _ | refine Keep.setOb ?_ (by first | rfl | simp) _ | refine Keep.kill hc ?_ (by first | rfl | simp) | refine Keep.ren hc ?_ (by first | rfl | simp) | refine Keep.ren1 hc ?_ (by first | rfl | simp) | refine Keep.kill1 hc ?_ (by first | rfl | simp))
  · have hi : i < order.length := by omega
    obtain ⟨xv, xh, _⟩ := ok.here hi
    obtain ⟨x0, x1⟩ := xv
    have ar := h.arcsOf x0 x1
    have hxm : max (rd order i) 0 = rd order i := by omega
    have gi := recRow_getI encQ best (rd order i) x0 (by omega)
    have s13 : s.tm 13 = .row (79085, 0) 1 0 order.length := by rw [hB.s13]; unfold ordV; rw [if_neg (by omega)]
    have o85 := hB.o85 (by omega)
    have s23 : s.tm 23 = .t (.v (.int .i64 i)) := by rw [s23]; push_cast; simp
    have go : (intRow order)[i]? = some [.v (.int .i64 (rd order i))] := by
      unfold intRow
      rw [List.getElem?_map, List.getElem?_eq_getElem hi, rd_get hi]
      rfl
    by_cases he : rd g.edgeOf (rd order i) = t
    · have he' : (rd g.edgeOf (rd order i) == t) = true := by simpa using he
      by_cases ha : (nth best (rd order i)).a = q.a
      · have ha' : ((nth best (rd order i)).a == q.a) = true := by simpa using ha
        by_cases hb : (nth best (rd order i)).b = q.b
        · have hb' : ((nth best (rd order i)).b == q.b) = true := by simpa using hb
          have gx := gb.yes ok hi ⟨he, ha, hb⟩
          repeat' (first
           | refine wp2_seq fun K hK => ?_
           | refine M_cons fun K hK => ?_
           | (refine hK _ ?_; clear hK K)
           | (refine hX _ ?_; clear hX hY X Y)
           | refine wp2_block ?_
           | refine wp2_region ?_
           | refine wp2_cond fun X Y hX hY => ?_
           | (refine condK_of (fun c => ?_) (fun c => ?_) <;> (try simp [-List.length_eq_zero_iff] at c))
           | simp (maxSteps := 4000000) (disch := omega) [hB.s2, hB.s3, hB.o3, hB.s8, hB.o8, hB.o33, hB.s10, hB.o37, s18, o18, s21, o21, s22, s23, s13, o85, go, gi, hxm, encQ, he', ha', hb'])
          all_goals first | omega | skip
          refine wp2_loop _ (rd g.first (rd order i + 1) - rd g.first (rd order i)).toNat ?_ (ds_l4 (t := t) (st0 := st0) h h0 h1 hc ok hi ?_)
          · refine ⟨good.set (rd order i).toNat true, rd g.first (rd order i), ?_, by simp [s18], by simp [o18, cellR], by simp [s21], by simp [o21], by simp [s22], by simp [s23], by simp, by simp, ?_, gx, Int.le_refl _, ar.2.1, by omega⟩
            · exact ⟨by simp [hB.s1], by simp [hB.s2], by simp [hB.s3], by simp [hB.s6], by simp [hB.s7], by simp [hB.s8], by simp [hB.s10], by simp [hB.s11], by simp [hB.s13], by simp [hB.o3], by simp [hB.o6], by simp [hB.o8], by simp [hB.o33], by simp [hB.o37], fun hn => by simp [hB.o85 hn]⟩
            · (repeat' first | exact q1 | exact q1 _ | refine Keep.put ?_ _ _ | refine Keep.setOb ?_ (by first | rfl | simp) _ | refine Keep.kill hc ?_ (by first | rfl | simp) | refine Keep.ren hc ?_ (by first | rfl | simp) | refine Keep.ren1 hc ?_ (by first | rfl | simp) | refine Keep.kill1 hc ?_ (by first | rfl | simp))
          · intro s good' hB s18 o18 s21 o21 s22 s23 q1 gb'
            unfold cellR at o18
            repeat' (first
             | refine M_cons fun K hK => ?_
             | (refine hK _ ?_; clear hK K)
             | refine wp2_region ?_
             | simp (maxSteps := 4000000) (disch := omega) [s23])
            refine hN i _ (by omega) ⟨good', ?_, by simp [s18], by simp [o18, cellR], by simp [s21], by simp [o21], by simp [s22], by simp, ?_, gb', by omega⟩
            · exact ⟨by simp [hB.s1], by simp [hB.s2], by simp [hB.s3], by simp [hB.s6], by simp [hB.s7], by simp [hB.s8], by simp [hB.s10], by simp [hB.s11], by simp [hB.s13], by simp [hB.o3], by simp [hB.o6], by simp [hB.o8], by simp [hB.o33], by simp [hB.o37], fun hn => by simp [hB.o85 hn]⟩
            · (repeat' first | exact q1 | exact q1 _ | refine Keep.put ?_ _ _ | refine Keep.setOb ?_ (by first | rfl | simp) _ | refine Keep.kill hc ?_ (by first | rfl | simp) | refine Keep.ren hc ?_ (by first | rfl | simp) | refine Keep.ren1 hc ?_ (by first | rfl | simp) | refine Keep.kill1 hc ?_ (by first | rfl | simp))
        · have hb' : ((nth best (rd order i)).b == q.b) = false := by simpa using hb
          have gx := gb.no ok hi (fun hx => hb hx.2.2)
          repeat' (first
           | refine wp2_seq fun K hK => ?_
           | refine M_cons fun K hK => ?_
           | (refine hK _ ?_; clear hK K)
           | (refine hX _ ?_; clear hX hY X Y)
           | (refine hY _ ?_; clear hX hY X Y)
           | refine wp2_block ?_
           | refine wp2_region ?_
           | refine wp2_cond fun X Y hX hY => ?_
           | (refine condK_of (fun c => ?_) (fun c => ?_) <;> (try simp [-List.length_eq_zero_iff] at c))
           | simp (maxSteps := 4000000) (disch := omega) [hB.s2, hB.s3, hB.o3, hB.s8, hB.o8, hB.o33, hB.s10, hB.o37, s18, o18, s21, o21, s22, s23, s13, o85, go, gi, hxm, encQ, he', ha', hb'])
          all_goals first | omega | skip
          refine wp2_loop _ (rd g.first (rd order i + 1) - rd g.first (rd order i)).toNat ?_ (ds_l4 (t := t) (st0 := st0) h h0 h1 hc ok hi ?_)
          · refine ⟨good, rd g.first (rd order i), ?_, by simp [s18], by simp [o18, cellR], by simp [s21], by simp [o21], by simp [s22], by simp [s23], by simp, by simp, ?_, gx, Int.le_refl _, ar.2.1, by omega⟩
            · exact ⟨by simp [hB.s1], by simp [hB.s2], by simp [hB.s3], by simp [hB.s6], by simp [hB.s7], by simp [hB.s8], by simp [hB.s10], by simp [hB.s11], by simp [hB.s13], by simp [hB.o3], by simp [hB.o6], by simp [hB.o8], by simp [hB.o33], by simp [hB.o37], fun hn => by simp [hB.o85 hn]⟩
            · (repeat' first | exact q1 | exact q1 _ | refine Keep.put ?_ _ _ | refine Keep.setOb ?_ (by first | rfl | simp) _ | refine Keep.kill hc ?_ (by first | rfl | simp) | refine Keep.ren hc ?_ (by first | rfl | simp) | refine Keep.ren1 hc ?_ (by first | rfl | simp) | refine Keep.kill1 hc ?_ (by first | rfl | simp))
          · intro s good' hB s18 o18 s21 o21 s22 s23 q1 gb'
            unfold cellR at o18
            repeat' (first
             | refine M_cons fun K hK => ?_
             | (refine hK _ ?_; clear hK K)
             | refine wp2_region ?_
             | simp (maxSteps := 4000000) (disch := omega) [s23])
            refine hN i _ (by omega) ⟨good', ?_, by simp [s18], by simp [o18, cellR], by simp [s21], by simp [o21], by simp [s22], by simp, ?_, gb', by omega⟩
            · exact ⟨by simp [hB.s1], by simp [hB.s2], by simp [hB.s3], by simp [hB.s6], by simp [hB.s7], by simp [hB.s8], by simp [hB.s10], by simp [hB.s11], by simp [hB.s13], by simp [hB.o3], by simp [hB.o6], by simp [hB.o8], by simp [hB.o33], by simp [hB.o37], fun hn => by simp [hB.o85 hn]⟩
            · (repeat' first | exact q1 | exact q1 _ | refine Keep.put ?_ _ _ | refine Keep.setOb ?_ (by first | rfl | simp) _ | refine Keep.kill hc ?_ (by first | rfl | simp) | refine Keep.ren hc ?_ (by first | rfl | simp) | refine Keep.ren1 hc ?_ (by first | rfl | simp) | refine Keep.kill1 hc ?_ (by first | rfl | simp))
      · have ha' : ((nth best (rd order i)).a == q.a) = false := by simpa using ha
        have gx := gb.no ok hi (fun hx => ha hx.2.1)
        repeat' (first
         | refine wp2_seq fun K hK => ?_
         | refine M_cons fun K hK => ?_
         | (refine hK _ ?_; clear hK K)
         | (refine hX _ ?_; clear hX hY X Y)
         | (refine hY _ ?_; clear hX hY X Y)
         | refine wp2_block ?_
         | refine wp2_region ?_
         | refine wp2_cond fun X Y hX hY => ?_
         | (refine condK_of (fun c => ?_) (fun c => ?_) <;> (try simp [-List.length_eq_zero_iff] at c))
         | simp (maxSteps := 4000000) (disch := omega) [hB.s2, hB.s3, hB.o3, hB.s8, hB.o8, hB.o33, hB.s10, hB.o37, s18, o18, s21, o21, s22, s23, s13, o85, go, gi, hxm, encQ, he', ha'])
        all_goals first | omega | skip
        refine wp2_loop _ (rd g.first (rd order i + 1) - rd g.first (rd order i)).toNat ?_ (ds_l4 (t := t) (st0 := st0) h h0 h1 hc ok hi ?_)
        · refine ⟨good, rd g.first (rd order i), ?_, by simp [s18], by simp [o18, cellR], by simp [s21], by simp [o21], by simp [s22], by simp [s23], by simp, by simp, ?_, gx, Int.le_refl _, ar.2.1, by omega⟩
          · exact ⟨by simp [hB.s1], by simp [hB.s2], by simp [hB.s3], by simp [hB.s6], by simp [hB.s7], by simp [hB.s8], by simp [hB.s10], by simp [hB.s11], by simp [hB.s13], by simp [hB.o3], by simp [hB.o6], by simp [hB.o8], by simp [hB.o33], by simp [hB.o37], fun hn => by simp [hB.o85 hn]⟩
          · (repeat' first | exact q1 | exact q1 _ | refine Keep.put ?_ _ _ | refine Keep.setOb ?_ (by first | rfl | simp) _ | refine Keep.kill hc ?_ (by first | rfl | simp) | refine Keep.ren hc ?_ (by first | rfl | simp) | refine Keep.ren1 hc ?_ (by first | rfl | simp) | refine Keep.kill1 hc ?_ (by first | rfl | simp))
        · intro s good' hB s18 o18 s21 o21 s22 s23 q1 gb'
          unfold cellR at o18
          repeat' (first
           | refine M_cons fun K hK => ?_
           | (refine hK _ ?_; clear hK K)
           | refine wp2_region ?_
           | simp (maxSteps := 4000000) (disch := omega) [s23])
          refine hN i _ (by omega) ⟨good', ?_, by simp [s18], by simp [o18, cellR], by simp [s21], by simp [o21], by simp [s22], by simp, ?_, gb', by omega⟩
          · exact ⟨by simp [hB.s1], by simp [hB.s2], by simp [hB.s3], by simp [hB.s6], by simp [hB.s7], by simp [hB.s8], by simp [hB.s10], by simp [hB.s11], by simp [hB.s13], by simp [hB.o3], by simp [hB.o6], by simp [hB.o8], by simp [hB.o33], by simp [hB.o37], fun hn => by simp [hB.o85 hn]⟩
          · (repeat' first | exact q1 | exact q1 _ | refine Keep.put ?_ _ _ | refine Keep.setOb ?_ (by first | rfl | simp) _ | refine Keep.kill hc ?_ (by first | rfl | simp) | refine Keep.ren hc ?_ (by first | rfl | simp) | refine Keep.ren1 hc ?_ (by first | rfl | simp) | refine Keep.kill1 hc ?_ (by first | rfl | simp))
    · have he' : (rd g.edgeOf (rd order i) == t) = false := by simpa using he
      have gx := gb.no ok hi (fun hx => he hx.1)
      repeat' (first
       | refine wp2_seq fun K hK => ?_
       | refine M_cons fun K hK => ?_
       | (refine hK _ ?_; clear hK K)
       | (refine hX _ ?_; clear hX hY X Y)
       | (refine hY _ ?_; clear hX hY X Y)
       | refine wp2_block ?_
       | refine wp2_region ?_
       | refine wp2_cond fun X Y hX hY => ?_
       | (refine condK_of (fun c => ?_) (fun c => ?_) <;> (try simp [-List.length_eq_zero_iff] at c))
       | simp (maxSteps := 4000000) (disch := omega) [hB.s2, hB.s3, hB.o3, hB.s8, hB.o8, hB.o33, hB.s10, hB.o37, s18, o18, s21, o21, s22, s23, s13, o85, go, gi, hxm, encQ, he'])
      all_goals first | omega | skip
      refine wp2_loop _ (rd g.first (rd order i + 1) - rd g.first (rd order i)).toNat ?_ (ds_l4 (t := t) (st0 := st0) h h0 h1 hc ok hi ?_)
      · refine ⟨good, rd g.first (rd order i), ?_, by simp [s18], by simp [o18, cellR], by simp [s21], by simp [o21], by simp [s22], by simp [s23], by simp, by simp, ?_, gx, Int.le_refl _, ar.2.1, by omega⟩
        · exact ⟨by simp [hB.s1], by simp [hB.s2], by simp [hB.s3], by simp [hB.s6], by simp [hB.s7], by simp [hB.s8], by simp [hB.s10], by simp [hB.s11], by simp [hB.s13], by simp [hB.o3], by simp [hB.o6], by simp [hB.o8], by simp [hB.o33], by simp [hB.o37], fun hn => by simp [hB.o85 hn]⟩
        · (repeat' first | exact q1 | exact q1 _ | refine Keep.put ?_ _ _ | refine Keep.setOb ?_ (by first | rfl | simp) _ | refine Keep.kill hc ?_ (by first | rfl | simp) | refine Keep.ren hc ?_ (by first | rfl | simp) | refine Keep.ren1 hc ?_ (by first | rfl | simp) | refine Keep.kill1 hc ?_ (by first | rfl | simp))
      · intro s good' hB s18 o18 s21 o21 s22 s23 q1 gb'
        unfold cellR at o18
        repeat' (first
         | refine M_cons fun K hK => ?_
         | (refine hK _ ?_; clear hK K)
         | refine wp2_region ?_
         | simp (maxSteps := 4000000) (disch := omega) [s23])
        refine hN i _ (by omega) ⟨good', ?_, by simp [s18], by simp [o18, cellR], by simp [s21], by simp [o21], by simp [s22], by simp, ?_, gb', by omega⟩
        · exact ⟨by simp [hB.s1], by simp [hB.s2], by simp [hB.s3], by simp [hB.s6], by simp [hB.s7], by simp [hB.s8], by simp [hB.s10], by simp [hB.s11], by simp [hB.s13], by simp [hB.o3], by simp [hB.o6], by simp [hB.o8], by simp [hB.o33], by simp [hB.o37], fun hn => by simp [hB.o85 hn]⟩
        · (repeat' first | exact q1 | exact q1 _ | refine Keep.put ?_ _ _ | refine Keep.setOb ?_ (by first | rfl | simp) _ | refine Keep.kill hc ?_ (by first | rfl | simp) | refine Keep.ren hc ?_ (by first | rfl | simp) | refine Keep.ren1 hc ?_ (by first | rfl | simp) | refine Keep.kill1 hc ?_ (by first | rfl | simp))
end Cal

/- impl.shortest: the way. -/
set_option linter.unusedSimpArgs false
set_option linter.unusedVariables false
namespace Cal
open Go Go.Proofs
set_option maxRecDepth 100000
@[simp] theorem ordV_kill1 (p : Id) (o : List Int) : AV.kill1 p (ordV o) = if p = (79085, 0) then (if o.length = 0 then .t (.v (.slice none 0 0)) else .bad) else ordV o := by
  unfold ordV
  by_cases h : p = (79085, 0) <;> by_cases h2 : o.length = 0 <;> simp [h, h2, AV.kill1]
  intro h3
  exact absurd h3.symm h
@[simp] theorem ordV_ren1 (p r : Id) (o : List Int) : AV.renG (ren1 p r) (ordV o) = if p = (79085, 0) then (if o.length = 0 then .t (.v (.slice none 0 0)) else .row r 1 0 o.length) else ordV o := by
  unfold ordV
  by_cases h : p = (79085, 0) <;> by_cases h2 : o.length = 0 <;> simp [h, h2, AV.renG, ren1]
  intro h3
  exact absurd h3.symm h
@[simp] theorem muteB_353 (t : Nat) : muteB true [353] (some t) = !(decide (t = 353)) := by simp [muteB]
set_option maxHeartbeats 0 in
theorem ds_l6 {g : Gr} {e t : Int} (h : VG g) (h0 : 0 ≤ e) (h1 : e < g.start.length) {st0 : St} (hc : st0.Calm F0 F0) {best : List Rc} {has : List Bool} {order : List Int} {q : Rc} (ok : OK g e t best has order q) {good : List Bool} (gb : GB g t best order q 0 good) {at' : Int} (xv : inV g at') (xh : rdb has at' = true) {es : List Int} (les : es.length ≤ 6001) (some' : ∃ k, rd g.first at' ≤ k ∧ k < rd g.first (at' + 1) ∧ Tight g best at' k ∧ Good g t best q (rd g.to k)) {Q : Ex → St → Prop}
    (hE : ∀ (s : St) (k : Int), (SC g e t best has order s ∧ s.tm 18 = .ptr (79018, 0) 0 0 ∧ s.ob (79018, 0) = some (.var (cellR q)) ∧ s.tm 21 = .row (79021, 0) 1 0 good.length ∧ s.ob (79021, 0) = some (.row 1 (boolRow good)) ∧ s.tm 22 = .clo 150 [] [.ptr (79003, 0) 0 0, .ptr (79008, 0) 0 0] ∧ s.tm 26 = .ptr (79026, 0) 0 0 ∧ s.ob (79026, 0) = some (.var [.t (.v (.int .i64 0)), .t (.v (.int .i64 q.a)), .row (353, 0) 1 0 (es.length + 1)]) ∧ s.ob (353, 0) = some (.row 1 (intRow (es ++ [rd g.edgeOf (rd g.to k)]))) ∧ Keep F0 st0 s) → s.tm 27 = .t (.v (.int .i64 (rd g.to k))) → rd g.first at' ≤ k → k < rd g.first (at' + 1) → Tight g best at' k → Good g t best q (rd g.to k) → (∀ j, rd g.first at' ≤ j → j < k → ¬ (Tight g best at' j ∧ Good g t best q (rd g.to j))) → Q .normal s)
    (m : Nat) (s : St) (hs : (fun (m : Nat) (s : St) => ∃ (k : Int), (SC g e t best has order s ∧ s.tm 18 = .ptr (79018, 0) 0 0 ∧ s.ob (79018, 0) = some (.var (cellR q)) ∧ s.tm 21 = .row (79021, 0) 1 0 good.length ∧ s.ob (79021, 0) = some (.row 1 (boolRow good)) ∧ s.tm 22 = .clo 150 [] [.ptr (79003, 0) 0 0, .ptr (79008, 0) 0 0] ∧ s.tm 26 = .ptr (79026, 0) 0 0 ∧ s.ob (79026, 0) = some (.var [.t (.v (.int .i64 0)), .t (.v (.int .i64 q.a)), .row (79030, 0) 1 0 es.length]) ∧ s.ob (79030, 0) = some (.row 1 (intRow es)) ∧ Keep F0 st0 s) ∧ s.tm 27 = .t (.v (.int .i64 at')) ∧ s.tm 28 = .t (.v (.int .i64 k)) ∧ rd g.first at' ≤ k ∧ k ≤ rd g.first (at' + 1) ∧ (∀ j, rd g.first at' ≤ j → j < k → ¬ (Tight g best at' j ∧ Good g t best q (rd g.to j))) ∧ (m : Int) = rd g.first (at' + 1) - k) m s) (K' : St → Prop)
    (hN : ∀ (m' : Nat) (s' : St), m' < m → (fun (m : Nat) (s : St) => ∃ (k : Int), (SC g e t best has order s ∧ s.tm 18 = .ptr (79018, 0) 0 0 ∧ s.ob (79018, 0) = some (.var (cellR q)) ∧ s.tm 21 = .row (79021, 0) 1 0 good.length ∧ s.ob (79021, 0) = some (.row 1 (boolRow good)) ∧ s.tm 22 = .clo 150 [] [.ptr (79003, 0) 0 0, .ptr (79008, 0) 0 0] ∧ s.tm 26 = .ptr (79026, 0) 0 0 ∧ s.ob (79026, 0) = some (.var [.t (.v (.int .i64 0)), .t (.v (.int .i64 q.a)), .row (79030, 0) 1 0 es.length]) ∧ s.ob (79030, 0) = some (.row 1 (intRow es)) ∧ Keep F0 st0 s) ∧ s.tm 27 = .t (.v (.int .i64 at')) ∧ s.tm 28 = .t (.v (.int .i64 k)) ∧ rd g.first at' ≤ k ∧ k ≤ rd g.first (at' + 1) ∧ (∀ j, rd g.first at' ≤ j → j < k → ¬ (Tight g best at' j ∧ Good g t best q (rd g.to j))) ∧ (m : Int) = rd g.first (at' + 1) - k) m' s' → K' s') :
    wp2 Try.prog k88_l6 (thenQ K' (inBlk 12 Q)) s := by
  obtain ⟨k, ⟨hB, s18, o18, s21, o21, s22, s26, o26, o30, q1⟩, s27, s28, hk1, hk2, hno, hm⟩ := hs
  have l3 := h.l3
  have l5 := h.l5
  have l6 := h.l6
  have l7 := h.l7
  have lb := ok.lb
  have lg := gb.1
  obtain ⟨x0, x1⟩ := xv
  have ar := h.arcsOf x0 x1
  unfold k88_l6
  by_cases hlt : k < rd g.first (at' + 1)
  · obtain ⟨a0, a1, a2, a3, a4, a5⟩ := h.arcOf x0 x1 hk1 hlt
    have hym : max (rd g.to k) 0 = rd g.to k := by omega
    obtain ⟨r1, r2, r3⟩ := ok.reach ⟨x0, x1⟩ xh hk1 hlt
    have rg := gb.all ok r1 r2
    repeat' (first
     | refine wp2_seq fun K hK => ?_
     | refine M_cons fun K hK => ?_
     | (refine hK _ ?_; clear hK K)
     | (refine hX _ ?_; clear hX hY X Y)
     | refine wp2_block ?_
     | refine wp2_inl (mk := [329]) 3 rfl ?_
     | refine wp2_region ?_
     | refine wp2_cond fun X Y hX hY => ?_
     | (refine condK_of (fun c => ?_) (fun c => ?_) <;> (try simp [-List.length_eq_zero_iff] at c))
     | simp (maxSteps := 4000000) (disch := omega) [hB.s2, hB.s3, hB.o3, hB.s8, hB.o8, hB.o33, hB.s10, hB.o37, s18, o18, s21, o21, s22, s26, o26, o30, s27, s28, hlt, mk1, makes])
    all_goals first | omega | skip
    generalize hst : St.put _ (some 328) _ = st4
    have q4 : Keep F0 st0 st4 := by
      rw [← hst]
      (repeat' first | exact q1 | exact q1 _ | refine Keep.put ?_ _ _ | refine Keep.setOb ?_ (by first | rfl | simp) _ | refine Keep.kill hc ?_ (by first | rfl | simp) | refine Keep.ren hc ?_ (by first | rfl | simp) | refine Keep.ren1 hc ?_ (by first | rfl | simp) | refine Keep.kill1 hc ?_ (by first | rfl | simp))
    have hB4 : SC g e t best has order st4 := by
      rw [← hst]
      exact ⟨by simp [hB.s1], by simp [hB.s2], by simp [hB.s3], by simp [hB.s6], by simp [hB.s7], by simp [hB.s8], by simp [hB.s10], by simp [hB.s11], by simp [hB.s13], by simp [hB.o3], by simp [hB.o6], by simp [hB.o8], by simp [hB.o33], by simp [hB.o37], fun hn => by simp [hB.o85 hn]⟩
    have u : st4.tm 18 = .ptr (79018, 0) 0 0 ∧ st4.tm 21 = .row (79021, 0) 1 0 good.length ∧ st4.tm 22 = .clo 150 [] [.ptr (79003, 0) 0 0, .ptr (79008, 0) 0 0] ∧ st4.tm 26 = .ptr (79026, 0) 0 0 ∧ st4.tm 27 = .t (.v (.int .i64 at')) ∧ st4.tm 28 = .t (.v (.int .i64 k)) ∧ st4.tm 326 = .clo 150 [] [.ptr (79003, 0) 0 0, .ptr (79008, 0) 0 0] ∧ st4.tm 327 = .t (.v (.int .i64 at')) ∧ st4.tm 328 = .t (.v (.int .i64 k)) ∧ st4.ob (79018, 0) = some (.var (cellR q)) ∧ st4.ob (79021, 0) = some (.row 1 (boolRow good)) ∧ st4.ob (79026, 0) = some (.var [.t (.v (.int .i64 0)), .t (.v (.int .i64 q.a)), .row (79030, 0) 1 0 es.length]) ∧ st4.ob (79030, 0) = some (.row 1 (intRow es)) := by
      rw [← hst]
      simp [s18, s21, s22, s26, s27, s28, o18, o21, o26, o30, cellR]
    obtain ⟨u18, u21, u22, u26, u27, u28, u326, u327, u328, v18, v21, v26, v30⟩ := u
    clear hst hB q1 s18 o18 s21 o21 s22 s26 o26 o30 s27 s28
    refine callI_tight h h0 h1 ok ⟨x0, x1⟩ xh hk1 hlt hc q4 hB4 [18, 21, 22, 26, 27, 28] [((79018, 0), .var (cellR q)), ((79021, 0), .row 1 (boolRow good)), ((79026, 0), .var [.t (.v (.int .i64 0)), .t (.v (.int .i64 q.a)), .row (79030, 0) 1 0 es.length]), ((79030, 0), .row 1 (intRow es))] u326 u327 u328 (by simp [u18, u21, u22, u26, u27, u28, AV.free, AV.frees, calm]) (by simp [v18, v21, v26, v30]) (by simp [Ob.avs, cellR, AV.frees, AV.free, calm]) ?_
    intro s3 q3 hB tm3 ob3
    have s18 : s3.tm 18 = .ptr (79018, 0) 0 0 := by rw [tm3 18 (by decide), u18]
    have s21 : s3.tm 21 = .row (79021, 0) 1 0 good.length := by rw [tm3 21 (by decide), u21]
    have s22 : s3.tm 22 = .clo 150 [] [.ptr (79003, 0) 0 0, .ptr (79008, 0) 0 0] := by rw [tm3 22 (by decide), u22]
    have s26 : s3.tm 26 = .ptr (79026, 0) 0 0 := by rw [tm3 26 (by decide), u26]
    have s27 : s3.tm 27 = .t (.v (.int .i64 at')) := by rw [tm3 27 (by decide), u27]
    have s28 : s3.tm 28 = .t (.v (.int .i64 k)) := by rw [tm3 28 (by decide), u28]
    have o18 := ob3 ((79018, 0), .var (cellR q)) (by simp)
    have o21 := ob3 ((79021, 0), .row 1 (boolRow good)) (by simp)
    have o26 := ob3 ((79026, 0), .var [.t (.v (.int .i64 0)), .t (.v (.int .i64 q.a)), .row (79030, 0) 1 0 es.length]) (by simp)
    have o30 := ob3 ((79030, 0), .row 1 (intRow es)) (by simp)
    dsimp only at o18 o21 o26 o30
    clear hB4 q4 tm3 ob3 u18 u21 u22 u26 u27 u28 u326 u327 u328 v18 v21 v26 v30
    by_cases ht : Tight g best at' k
    · cases hg : rdb good (rd g.to k) with
      | true =>
        have gd := rg.1 hg
        repeat' (first
         | refine wp2_seq fun K hK => ?_
         | refine M_cons fun K hK => ?_
         | (refine hK _ ?_; clear hK K)
         | (refine hX _ ?_; clear hX hY X Y)
         | refine wp2_region ?_
         | refine wp2_cond fun X Y hX hY => ?_
         | (refine condK_of (fun c => ?_) (fun c => ?_) <;> (try simp [-List.length_eq_zero_iff] at c))
         | simp (maxSteps := 4000000) (disch := omega) [hB.s2, hB.s3, hB.o3, hB.s8, hB.o8, hB.o33, hB.s10, hB.o37, s18, o18, s21, o21, s22, s26, o26, o30, s27, s28, ht, hg, hym, mk1, makes])
        all_goals first | omega | skip
        refine hE _ k ⟨?_, by simp [s18], by simp [o18, cellR], by simp [s21], by simp [o21], by simp [s22], by simp [s26], by simp [o26], by simp [o30], ?_⟩ (by simp) hk1 hlt ht gd hno
        · exact ⟨by simp [hB.s1], by simp [hB.s2], by simp [hB.s3], by simp [hB.s6], by simp [hB.s7], by simp [hB.s8], by simp [hB.s10], by simp [hB.s11], by simp [hB.s13], by simp [hB.o3], by simp [hB.o6], by simp [hB.o8], by simp [hB.o33], by simp [hB.o37], fun hn => by simp [hB.o85 hn]⟩
        · (repeat' first | exact q3 | exact q3 _ | refine Keep.put ?_ _ _ | refine Keep.setOb ?_ (by first | rfl | simp) _ | refine Keep.kill hc ?_ (by first | rfl | simp) | refine Keep.ren hc ?_ (by first | rfl | simp) | refine Keep.ren1 hc ?_ (by first | rfl | simp) | refine Keep.kill1 hc ?_ (by first | rfl | simp))
      | false =>
        repeat' (first
         | refine M_cons fun K hK => ?_
         | (refine hK _ ?_; clear hK K)
         | (refine hY _ ?_; clear hX hY X Y)
         | refine wp2_region ?_
         | refine wp2_cond fun X Y hX hY => ?_
         | (refine condK_of (fun c => ?_) (fun c => ?_) <;> (try simp [-List.length_eq_zero_iff] at c))
         | simp (maxSteps := 4000000) (disch := omega) [hB.s2, hB.s3, hB.o3, hB.s8, hB.o8, hB.o33, hB.s10, hB.o37, s18, o18, s21, o21, s22, s26, o26, o30, s27, s28, ht, hg, hym, mk1, makes])
        all_goals first | omega | skip
        refine hN (m - 1) _ (by omega) ⟨k + 1, ⟨?_, by simp [s18], by simp [o18, cellR], by simp [s21], by simp [o21], by simp [s22], by simp [s26], by simp [o26], by simp [o30], ?_⟩, by simp [s27], by simp, by omega, by omega, fun j j1 j2 => ?_, by omega⟩
        · exact ⟨by simp [hB.s1], by simp [hB.s2], by simp [hB.s3], by simp [hB.s6], by simp [hB.s7], by simp [hB.s8], by simp [hB.s10], by simp [hB.s11], by simp [hB.s13], by simp [hB.o3], by simp [hB.o6], by simp [hB.o8], by simp [hB.o33], by simp [hB.o37], fun hn => by simp [hB.o85 hn]⟩
        · (repeat' first | exact q3 | exact q3 _ | refine Keep.put ?_ _ _ | refine Keep.setOb ?_ (by first | rfl | simp) _ | refine Keep.kill hc ?_ (by first | rfl | simp) | refine Keep.ren hc ?_ (by first | rfl | simp) | refine Keep.ren1 hc ?_ (by first | rfl | simp) | refine Keep.kill1 hc ?_ (by first | rfl | simp))
        · by_cases ej : j = k
          · subst ej
            exact fun hx => by rw [rg.2 hx.2] at hg; cases hg
          · exact hno j j1 (by omega)
    · repeat' (first
     | refine M_cons fun K hK => ?_
     | (refine hK _ ?_; clear hK K)
     | (refine hY _ ?_; clear hX hY X Y)
     | refine wp2_region ?_
     | refine wp2_cond fun X Y hX hY => ?_
     | (refine condK_of (fun c => ?_) (fun c => ?_) <;> (try simp [-List.length_eq_zero_iff] at c))
     | simp (maxSteps := 4000000) (disch := omega) [hB.s2, hB.s3, hB.o3, hB.s8, hB.o8, hB.o33, hB.s10, hB.o37, s18, o18, s21, o21, s22, s26, o26, o30, s27, s28, ht, mk1, makes])
      all_goals first | omega | skip
      refine hN (m - 1) _ (by omega) ⟨k + 1, ⟨?_, by simp [s18], by simp [o18, cellR], by simp [s21], by simp [o21], by simp [s22], by simp [s26], by simp [o26], by simp [o30], ?_⟩, by simp [s27], by simp, by omega, by omega, fun j j1 j2 => ?_, by omega⟩
      · exact ⟨by simp [hB.s1], by simp [hB.s2], by simp [hB.s3], by simp [hB.s6], by simp [hB.s7], by simp [hB.s8], by simp [hB.s10], by simp [hB.s11], by simp [hB.s13], by simp [hB.o3], by simp [hB.o6], by simp [hB.o8], by simp [hB.o33], by simp [hB.o37], fun hn => by simp [hB.o85 hn]⟩
      · (repeat' first | exact q3 | exact q3 _ | refine Keep.put ?_ _ _ | refine Keep.setOb ?_ (by first | rfl | simp) _ | refine Keep.kill hc ?_ (by first | rfl | simp) | refine Keep.ren hc ?_ (by first | rfl | simp) | refine Keep.ren1 hc ?_ (by first | rfl | simp) | refine Keep.kill1 hc ?_ (by first | rfl | simp))
      · by_cases ej : j = k
        · subst ej
          exact fun hx => ht hx.1
        · exact hno j j1 (by omega)
  · obtain ⟨k0, b1, b2, b3⟩ := some'
    exact absurd b3 (hno k0 b1 (by omega))
set_option maxHeartbeats 0 in
theorem ds_l5 {g : Gr} {e t : Int} (h : VG g) (h0 : 0 ≤ e) (h1 : e < g.start.length) {st0 : St} (hc : st0.Calm F0 F0) {best : List Rc} {has : List Bool} {order : List Int} {q : Rc} (ok : OK g e t best has order q) {good : List Bool} (gb : GB g t best order q 0 good) {fin : List Int} (lf : fin.length ≤ 6001) {Q : Ex → St → Prop}
    (hE : ∀ (s : St) (rid : Id), (SC g e t best has order s ∧ s.tm 18 = .ptr (79018, 0) 0 0 ∧ s.ob (79018, 0) = some (.var (cellR q)) ∧ s.tm 21 = .row (79021, 0) 1 0 good.length ∧ s.ob (79021, 0) = some (.row 1 (boolRow good)) ∧ s.tm 22 = .clo 150 [] [.ptr (79003, 0) 0 0, .ptr (79008, 0) 0 0] ∧ s.tm 26 = .ptr (79026, 0) 0 0 ∧ s.ob (79026, 0) = some (.var [.t (.v (.int .i64 0)), .t (.v (.int .i64 q.a)), .row rid 1 0 fin.length]) ∧ s.ob rid = some (.row 1 (intRow fin)) ∧ Keep F0 st0 s) → (rid = (79030, 0) ∨ rid = (353, 0)) → Q .normal s)
    (m : Nat) (s : St) (hs : (fun (m : Nat) (s : St) => ∃ (at' : Int) (es er : List Int) (rid : Id), (SC g e t best has order s ∧ s.tm 18 = .ptr (79018, 0) 0 0 ∧ s.ob (79018, 0) = some (.var (cellR q)) ∧ s.tm 21 = .row (79021, 0) 1 0 good.length ∧ s.ob (79021, 0) = some (.row 1 (boolRow good)) ∧ s.tm 22 = .clo 150 [] [.ptr (79003, 0) 0 0, .ptr (79008, 0) 0 0] ∧ s.tm 26 = .ptr (79026, 0) 0 0 ∧ s.ob (79026, 0) = some (.var [.t (.v (.int .i64 0)), .t (.v (.int .i64 q.a)), .row rid 1 0 es.length]) ∧ s.ob rid = some (.row 1 (intRow es)) ∧ Keep F0 st0 s) ∧ (rid = (79030, 0) ∨ rid = (353, 0)) ∧ s.tm 27 = .t (.v (.int .i64 at')) ∧ inV g at' ∧ rdb has at' = true ∧ Good g t best q at' ∧ LexMin g t best q at' er ∧ es ++ er = fin ∧ m = (q.b - (nth best at').b).toNat) m s) (K' : St → Prop)
    (hN : ∀ (m' : Nat) (s' : St), m' < m → (fun (m : Nat) (s : St) => ∃ (at' : Int) (es er : List Int) (rid : Id), (SC g e t best has order s ∧ s.tm 18 = .ptr (79018, 0) 0 0 ∧ s.ob (79018, 0) = some (.var (cellR q)) ∧ s.tm 21 = .row (79021, 0) 1 0 good.length ∧ s.ob (79021, 0) = some (.row 1 (boolRow good)) ∧ s.tm 22 = .clo 150 [] [.ptr (79003, 0) 0 0, .ptr (79008, 0) 0 0] ∧ s.tm 26 = .ptr (79026, 0) 0 0 ∧ s.ob (79026, 0) = some (.var [.t (.v (.int .i64 0)), .t (.v (.int .i64 q.a)), .row rid 1 0 es.length]) ∧ s.ob rid = some (.row 1 (intRow es)) ∧ Keep F0 st0 s) ∧ (rid = (79030, 0) ∨ rid = (353, 0)) ∧ s.tm 27 = .t (.v (.int .i64 at')) ∧ inV g at' ∧ rdb has at' = true ∧ Good g t best q at' ∧ LexMin g t best q at' er ∧ es ++ er = fin ∧ m = (q.b - (nth best at').b).toNat) m' s' → K' s') :
    wp2 Try.prog k88_l5 (thenQ K' (inBlk 10 Q)) s := by
  obtain ⟨at', es, er, rid, ⟨hB, s18, o18, s21, o21, s22, s26, o26, o30, q1⟩, hid, s27, xv, xh, gd, lm, hf, rfl⟩ := hs
  have l3 := h.l3
  have l5 := h.l5
  have l6 := h.l6
  have l7 := h.l7
  have lb := ok.lb
  obtain ⟨x0, x1⟩ := xv
  have ar := h.arcsOf x0 x1
  have hxm : max at' 0 = at' := by omega
  have gi := recRow_getI encQ best at' x0 (by omega)
  have les : es.length ≤ 6001 := by rw [← hf] at lf; simp at lf; omega
  have o18' := o18
  unfold cellR at o18
  unfold k88_l5
  by_cases hlt : (nth best at').b < q.b
  · have sm := ok.some gd hlt
    have next : ∀ (s : St) (k : Int), (SC g e t best has order s ∧ s.tm 18 = .ptr (79018, 0) 0 0 ∧ s.ob (79018, 0) = some (.var (cellR q)) ∧ s.tm 21 = .row (79021, 0) 1 0 good.length ∧ s.ob (79021, 0) = some (.row 1 (boolRow good)) ∧ s.tm 22 = .clo 150 [] [.ptr (79003, 0) 0 0, .ptr (79008, 0) 0 0] ∧ s.tm 26 = .ptr (79026, 0) 0 0 ∧ s.ob (79026, 0) = some (.var [.t (.v (.int .i64 0)), .t (.v (.int .i64 q.a)), .row (353, 0) 1 0 (es.length + 1)]) ∧ s.ob (353, 0) = some (.row 1 (intRow (es ++ [rd g.edgeOf (rd g.to k)]))) ∧ Keep F0 st0 s) → s.tm 27 = .t (.v (.int .i64 (rd g.to k))) → rd g.first at' ≤ k → k < rd g.first (at' + 1) → Tight g best at' k → Good g t best q (rd g.to k) → (∀ j, rd g.first at' ≤ j → j < k → ¬ (Tight g best at' j ∧ Good g t best q (rd g.to j))) → K' s := by
      intro s k hs s27 k1 k2 k3 k4 k5
      obtain ⟨e', he, hl⟩ := ok.stepOn ⟨x0, x1⟩ xh k1 k2 k3 k4 k5 lm
      obtain ⟨r1, r2, r3⟩ := ok.reach ⟨x0, x1⟩ xh k1 k2
      have t2 := k3.2
      refine hN _ _ ?_ ⟨rd g.to k, es ++ [rd g.edgeOf (rd g.to k)], e', (353, 0), by simpa using hs, .inr rfl, s27, r1, r2, k4, hl, by rw [← hf, he]; simp, rfl⟩
      omega
    rcases hid with rfl | rfl
    · repeat' (first
     | refine wp2_seq fun K hK => ?_
     | refine M_cons fun K hK => ?_
     | (refine hK _ ?_; clear hK K)
     | (refine hX _ ?_; clear hX hY X Y)
     | refine wp2_block ?_
     | refine wp2_region ?_
     | refine wp2_cond fun X Y hX hY => ?_
     | (refine condK_of (fun c => ?_) (fun c => ?_) <;> (try simp [-List.length_eq_zero_iff] at c))
     | simp (maxSteps := 4000000) (disch := omega) [hB.s2, hB.s3, hB.o3, hB.s8, hB.o8, hB.o33, hB.s10, hB.o37, s18, o18, s21, o21, s22, s26, o26, o30, s27, hlt, gi, hxm, encQ])
      all_goals first | omega | skip
      refine wp2_loop _ (rd g.first (at' + 1) - rd g.first at').toNat ?_ (ds_l6 (st0 := st0) h h0 h1 hc ok gb ⟨x0, x1⟩ xh les sm next)
      refine ⟨rd g.first at', ⟨?_, by simp [s18], by simp [o18, cellR], by simp [s21], by simp [o21], by simp [s22], by simp [s26], by simp [o26], by simp [o30], ?_⟩, by simp [s27], by simp, Int.le_refl _, ar.2.1, fun j j1 j2 => by omega, by omega⟩
      · exact ⟨by simp [hB.s1], by simp [hB.s2], by simp [hB.s3], by simp [hB.s6], by simp [hB.s7], by simp [hB.s8], by simp [hB.s10], by simp [hB.s11], by simp [hB.s13], by simp [hB.o3], by simp [hB.o6], by simp [hB.o8], by simp [hB.o33], by simp [hB.o37], fun hn => by simp [hB.o85 hn]⟩
      · (repeat' first | exact q1 | exact q1 _ | refine Keep.put ?_ _ _ | refine Keep.setOb ?_ (by first | rfl | simp) _ | refine Keep.kill hc ?_ (by first | rfl | simp) | refine Keep.ren hc ?_ (by first | rfl | simp) | refine Keep.ren1 hc ?_ (by first | rfl | simp) | refine Keep.kill1 hc ?_ (by first | rfl | simp))
    · repeat' (first
     | refine wp2_seq fun K hK => ?_
     | refine M_cons fun K hK => ?_
     | (refine hK _ ?_; clear hK K)
     | (refine hX _ ?_; clear hX hY X Y)
     | refine wp2_block ?_
     | (refine wp2_ren1' (ops := ⟨some 303, _, _⟩ :: _) (353, 0) (79030, 0) (by rfl) (by simp [hB.s2, hB.s3, hB.o3, hB.s8, hB.o8, hB.o33, hB.s10, hB.o37, s18, o18, s21, o21, s22, s26, o26, o30, s27, hlt, gi, hxm, encQ] <;> first | rfl | exact ⟨rfl, rfl⟩) ?_)
     | refine wp2_region ?_
     | refine wp2_cond fun X Y hX hY => ?_
     | (refine condK_of (fun c => ?_) (fun c => ?_) <;> (try simp [-List.length_eq_zero_iff] at c))
     | simp (maxSteps := 4000000) (disch := omega) [hB.s2, hB.s3, hB.o3, hB.s8, hB.o8, hB.o33, hB.s10, hB.o37, s18, o18, s21, o21, s22, s26, o26, o30, s27, hlt, gi, hxm, encQ])
      all_goals first | omega | skip
      refine wp2_loop _ (rd g.first (at' + 1) - rd g.first at').toNat ?_ (ds_l6 (st0 := st0) h h0 h1 hc ok gb ⟨x0, x1⟩ xh les sm next)
      refine ⟨rd g.first at', ⟨?_, by simp [s18], by simp [o18, cellR], by simp [s21], by simp [o21], by simp [s22], by simp [s26], by simp [o26], by simp [o30], ?_⟩, by simp [s27], by simp, Int.le_refl _, ar.2.1, fun j j1 j2 => by omega, by omega⟩
      · exact ⟨by simp [hB.s1], by simp [hB.s2], by simp [hB.s3], by simp [hB.s6], by simp [hB.s7], by simp [hB.s8], by simp [hB.s10], by simp [hB.s11], by simp [hB.s13], by simp [hB.o3], by simp [hB.o6], by simp [hB.o8], by simp [hB.o33], by simp [hB.o37], fun hn => by simp [hB.o85 hn]⟩
      · (repeat' first | exact q1 | exact q1 _ | refine Keep.put ?_ _ _ | refine Keep.setOb ?_ (by first | rfl | simp) _ | refine Keep.kill hc ?_ (by first | rfl | simp) | refine Keep.ren hc ?_ (by first | rfl | simp) | refine Keep.ren1 hc ?_ (by first | rfl | simp) | refine Keep.kill1 hc ?_ (by first | rfl | simp))
  · have he := lm.stop hlt
    subst he
    rw [List.append_nil] at hf
    subst hf
    repeat' (first
     | refine wp2_seq fun K hK => ?_
     | refine M_cons fun K hK => ?_
     | (refine hK _ ?_; clear hK K)
     | (refine hY _ ?_; clear hX hY X Y)
     | refine wp2_region ?_
     | refine wp2_cond fun X Y hX hY => ?_
     | (refine condK_of (fun c => ?_) (fun c => ?_) <;> (try simp [-List.length_eq_zero_iff] at c))
     | simp (maxSteps := 4000000) (disch := omega) [hB.s2, hB.s3, hB.o3, hB.s8, hB.o8, hB.o33, hB.s10, hB.o37, s18, o18, s21, o21, s22, s26, o26, o30, s27, hlt, gi, hxm, encQ])
    all_goals first | omega | skip
    refine hE _ rid ⟨?_, by simp [s18], by simp [o18, cellR], by simp [s21], by simp [o21], by simp [s22], by simp [s26], by simp [o26], by simp [o30], ?_⟩ hid
    · exact ⟨by simp [hB.s1], by simp [hB.s2], by simp [hB.s3], by simp [hB.s6], by simp [hB.s7], by simp [hB.s8], by simp [hB.s10], by simp [hB.s11], by simp [hB.s13], by simp [hB.o3], by simp [hB.o6], by simp [hB.o8], by simp [hB.o33], by simp [hB.o37], fun hn => by simp [hB.o85 hn]⟩
    · (repeat' first | exact q1 | exact q1 _ | refine Keep.put ?_ _ _ | refine Keep.setOb ?_ (by first | rfl | simp) _ | refine Keep.kill hc ?_ (by first | rfl | simp) | refine Keep.ren hc ?_ (by first | rfl | simp) | refine Keep.ren1 hc ?_ (by first | rfl | simp) | refine Keep.kill1 hc ?_ (by first | rfl | simp))
end Cal
