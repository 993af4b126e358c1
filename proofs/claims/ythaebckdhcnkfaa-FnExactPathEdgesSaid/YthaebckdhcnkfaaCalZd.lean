/- A calculus of our own, twenty-ninth part: code. No program is named here. -/
import Derived.Test.YthaebckdhcnkfaaCalZc
set_option linter.unusedSimpArgs false
set_option linter.unusedVariables false
namespace Cal
open Go Go.RowKit

variable {P : Program} {w0 w : World} {S0 S S2 : Nat → Prop} {own : List Nat} {H : Nat → Nat × Nat} {N : Nat} {m cap : Id → Nat} {st st2 : St} {a : Act} {d : Nat} {rg : Rg} {o : Oper} {v : AV} {f : Eff} {p : Id → Prop}

/-- What is asked of a region. -/
def okRegion (N : Nat) (rg : Rg) : Bool := rg.ops.toList.all (okOper N) && decide (makes rg.ops.toList).Nodup && (!rg.drawn || okDrawn rg)

/-- What is asked of code. -/
def okCode (N : Nat) (lo : Nat → List Nat) : Code → Bool
  | .skip => true
  | .region id ops dr => okRegion N ⟨ops, dr, lo id⟩
  | .seq x y => okCode N lo x && okCode N lo y
  | .cond _ x y => okCode N lo x && okCode N lo y
  | .block _ c => okCode N lo c
  | .loop c => okCode N lo c
  | .exit _ => true
  | .ret => true
  | _ => false

/-- How code ends, in the machine. -/
def RQ (w0 : World) (S0 : Nat → Prop) (own : List Nat) (H : Nat → Nat × Nat) (N : Nat) (Q : Ex → St → Prop) : Exit → Act → World → Prop
  | .normal, a, w => ∃ st, Rel w0 S0 own H N st a w ∧ Q .normal st
  | .exit id, a, w => ∃ st, Rel w0 S0 own H N st a w ∧ Q (.exit id) st
  | .ret, a, w => ∃ st, Rel w0 S0 own H N st a w ∧ Q .ret st
  | _, _, _ => False

theorem Rel.kill (h : Rel w0 S0 own H N st a w) (ds : List Nat) : Rel w0 S0 own H N (st.kill ds) a w := by
  obtain ⟨m, cap, S, h1, h2⟩ := h
  exact ⟨m, cap, S, h1.kill ds, h2⟩

theorem Rel.drawn (h : Rel w0 S0 own H N st a w) (n : Nat) : Rel w0 S0 own H N st a { w with drawn := n } := by
  obtain ⟨m, cap, S, h1, h2⟩ := h
  refine ⟨m, cap, S, h1.called (w' := { w with drawn := n }) (st' := st) (bl := []) ⟨rfl, rfl, rfl, Nat.le_refl _, fun _ _ _ => rfl⟩ (by simp) (fun _ hb => hb) (fun b hb => ⟨h1.stab b hb, .inl hb⟩) (by simp) rfl (fun id => .inl ⟨rfl, by simp⟩), h2⟩

theorem fresh_kill {os : List Oper} (hn : (makes os).Nodup) : Fresh os (st.kill (makes os)) :=
  ⟨fun o ho hm t ht => (St.kill_free st (makes os)).mono fun id hid => by rw [hid]; exact mem_makes.2 ⟨o, ho, hm, ht⟩, hn⟩

theorem toList_opAt (ops : Array Oper) : ops.toList = (List.range ops.size).map (opAt ops) := by
  apply List.ext_getElem?
  intro i
  rw [Array.getElem?_toList, List.getElem?_map]
  by_cases h : i < ops.size
  · rw [List.getElem?_range h, opAt_some h]
    rfl
  · rw [List.getElem?_eq_none (by simpa using h), Array.getElem?_eq_none (by omega)]
    rfl

theorem region_sound (hm : P.follows .mixedOrders = true) (hN : N ≤ base) {id : Nat} {ops : Array Oper} {dr : Bool} {lo : List Nat} (hok : okRegion N ⟨ops, dr, lo⟩ = true) {Q : Ex → St → Prop} (hr : Rel w0 S0 own H N st a w)
    (h : wpL P ⟨ops, dr, lo⟩ ops.toList (st.kill (makes ops.toList)) (Q .normal)) : (Code.region id ops dr).wp P (RQ w0 S0 own H N Q) a w := by
  unfold okRegion at hok
  simp only [Bool.and_eq_true, decide_eq_true_eq, Bool.or_eq_true, Bool.not_eq_true', List.all_eq_true] at hok
  obtain ⟨⟨h1, h2⟩, h3⟩ := hok
  have hok' : ∀ i < ops.size, okOper N (opAt ops i) = true := fun i hi => h1 _ (by
    have := opAt_some hi
    exact Array.mem_toList_iff.2 (Array.mem_of_getElem? this))
  have hQ : ∀ st a w, Rel w0 S0 own H N st a w → Q .normal st → RQ w0 S0 own H N Q .normal a w := fun st a w hr hq => ⟨st, hr, hq⟩
  cases dr with
  | false =>
    refine wp_region (text_sound (rg := ⟨ops, false, lo⟩) hN rfl hQ (List.range ops.size) ops.toList _ a w ?_ h1 (hr.kill _) (fresh_kill h2) h)
    rw [toList_opAt ops, List.map_map]
    exact List.map_congr_left fun i hi => opAt_some (List.mem_range.1 hi)
  | true =>
    have hd : okDrawn ⟨ops, true, lo⟩ = true := by
      rcases h3 with h3 | h3
      · cases h3
      · exact h3
    refine wp_region_any hm (drawn_sound (rg := ⟨ops, true, lo⟩) hN hd hQ hok' ops.size (List.range ops.size) _ _ a _ (by simp) List.pairwise_lt_range (fun i hi => List.mem_range.1 hi) (by simp) (fun i hi => ?_) (fun i hi hni => absurd (List.mem_range.2 hi) hni) ((hr.kill (makes ops.toList)).drawn _) ?_ ?_)
    · simp only at hi
      simp [Array.getD_eq_getD_getElem?, hi]
    · show Fresh ((List.range ops.size).map (opAt ops)) _
      rw [← toList_opAt]
      exact fresh_kill h2
    · show wpL P _ ((List.range ops.size).map (opAt ops)) _ _
      rw [← toList_opAt]
      exact h

theorem code_sound (hm : P.follows .mixedOrders = true) (hN : N ≤ base) (lo : Nat → List Nat) : ∀ (c : Code) {Q : Ex → St → Prop} {st : St} {a : Act} {w : World}, okCode N lo c = true → Rel w0 S0 own H N st a w → wpC P lo c Q st → c.wp P (RQ w0 S0 own H N Q) a w
  | .skip, Q, st, a, w, _, hr, h => wp_skip ⟨st, hr, by rw [wpC_skip] at h; exact h⟩
  | .region id ops dr, Q, st, a, w, hok, hr, h => region_sound hm hN hok hr (by rw [wpC_region] at h; exact h)
  | .seq x y, Q, st, a, w, hok, hr, h => by
    unfold okCode at hok
    simp only [Bool.and_eq_true] at hok
    rw [wpC] at h
    refine wp_seq (wp_mono (code_sound hm hN lo x hok.1 hr h) fun e a' w' he => ?_)
    cases e with
    | normal =>
      obtain ⟨st', hr', h'⟩ := he
      exact code_sound hm hN lo y hok.2 hr' h'
    | exit id => exact he
    | ret => exact he
    | goto l => exact he.elim
    | panic c => exact he.elim
    | outgrown => exact he.elim
  | .cond c x y, Q, st, a, w, hok, hr, h => by
    unfold okCode at hok
    simp only [Bool.and_eq_true] at hok
    rw [wpC] at h
    obtain ⟨b, hb, h⟩ := h
    have hev : a.eval c = .bool b := by
      obtain ⟨m, cap, S, hr, _⟩ := hr
      have := hr.ev c
      unfold boolA at hb
      split at hb
      · rename_i b' hb'
        cases hb
        rw [hb'] at this
        exact (AVrep_v_inv this).1
      · cases hb
    refine wp_cond hev ?_
    cases b with
    | true => exact code_sound hm hN lo x hok.1 hr h
    | false => exact code_sound hm hN lo y hok.2 hr h
  | .block id c, Q, st, a, w, hok, hr, h => by
    unfold okCode at hok
    rw [wpC] at h
    refine wp_block (wp_mono (code_sound hm hN lo c hok hr h) fun e a' w' he => ?_)
    cases e with
    | normal => exact he
    | exit i =>
      obtain ⟨st', hr', h'⟩ := he
      unfold Exit.inBlock
      dsimp only at h' ⊢
      split
      · rename_i hi; rw [if_pos hi] at h'; exact ⟨st', hr', h'⟩
      · rename_i hi; rw [if_neg hi] at h'; exact ⟨st', hr', h'⟩
    | ret => exact he
    | goto l => exact he.elim
    | panic c => exact he.elim
    | outgrown => exact he.elim
  | .loop c, Q, st, a, w, hok, hr, h => by
    unfold okCode at hok
    rw [wpC] at h
    obtain ⟨I, μ, h0, h1⟩ := h
    -- the least measure of a state that stands for this frame and world
    let J : Act → World → Nat → Prop := fun a w n => ∃ st, Rel w0 S0 own H N st a w ∧ I st ∧ μ st = n
    classical
    have least : ∀ a w, (∃ n, J a w n) → ∃ n, J a w n ∧ ∀ k, J a w k → n ≤ k := fun a w ⟨n, hn⟩ => by
      induction n using Nat.strongRecOn with
      | _ n ih =>
        by_cases hlt : ∃ k, k < n ∧ J a w k
        · obtain ⟨k, hk1, hk2⟩ := hlt
          exact ih k hk1 hk2
        · exact ⟨n, hn, fun k hk => Nat.le_of_not_lt fun hlt' => hlt ⟨k, hlt', hk⟩⟩
    let μ' : Act → World → Nat := fun a w => if hex : ∃ n, J a w n then (least a w hex).choose else 0
    refine wp_loop (fun a w => ∃ n, J a w n) μ' ⟨μ st, st, hr, h0, rfl⟩ fun a w hex => ?_
    have hμ : μ' a w = (least a w hex).choose := by simp only [μ', dif_pos hex]
    obtain ⟨⟨st1, hr1, hI1, hm1⟩, _⟩ := (least a w hex).choose_spec
    refine wp_mono (code_sound hm hN lo c hok hr1 (h1 st1 hI1)) fun e a' w' he => ?_
    cases e with
    | normal =>
      obtain ⟨st', hr', hI', hlt⟩ := he
      have hex' : ∃ n, J a' w' n := ⟨μ st', st', hr', hI', rfl⟩
      refine ⟨hex', ?_⟩
      have hle := (least a' w' hex').choose_spec.2 (μ st') ⟨st', hr', hI', rfl⟩
      have hμ' : μ' a' w' = (least a' w' hex').choose := by simp only [μ', dif_pos hex']
      omega
    | exit id => exact he
    | ret => exact he
    | goto l => exact he.elim
    | panic c => exact he.elim
    | outgrown => exact he.elim
  | .exit id, Q, st, a, w, _, hr, h => wp_exit ⟨st, hr, by rw [wpC_exit] at h; exact h⟩
  | .ret, Q, st, a, w, _, hr, h => wp_ret ⟨st, hr, by rw [wpC_ret] at h; exact h⟩
  | .scope c, _, _, _, _, hok, _, _ => by unfold okCode at hok; cases hok
  | .rangeFunc .., _, _, _, _, hok, _, _ => by unfold okCode at hok; cases hok
  | .label _, _, _, _, _, hok, _, _ => by unfold okCode at hok; cases hok
  | .goto _, _, _, _, _, hok, _, _ => by unfold okCode at hok; cases hok
  | .refuse _, _, _, _, _, hok, _, _ => by unfold okCode at hok; cases hok

end Cal
