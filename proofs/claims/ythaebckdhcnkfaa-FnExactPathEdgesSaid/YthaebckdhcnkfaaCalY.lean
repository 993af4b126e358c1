/- A calculus of our own, twenty-fourth part: the objects behind a call. No program is named here. -/
import Derived.Test.YthaebckdhcnkfaaCalX
set_option linter.unusedSimpArgs false
set_option linter.unusedVariables false
namespace Cal
open Go Go.RowKit

variable {P : Program} {w0 w : World} {S0 S : Nat → Prop} {own : List Nat} {N : Nat} {m cap : Id → Nat} {st : St} {a : Act}

theorem eff_not {id : Id} : ∀ {f : Eff} {s : St}, id ∉ f.map (·.1) → (s.eff f).ob id = s.ob id
  | [], s, _ => rfl
  | (i, o) :: f, s, h => by
    simp only [List.map_cons, List.mem_cons, not_or] at h
    simp only [St.eff]
    rw [eff_not h.2]
    simp [St.setOb, h.1]

theorem eff_mem {id : Id} {o : Option Ob} : ∀ {f : Eff} {s : St}, (f.map (·.1)).Nodup → (id, o) ∈ f → (s.eff f).ob id = o
  | [], s, _, h => by simp at h
  | (i, o') :: f, s, hn, h => by
    simp only [List.map_cons, List.nodup_cons] at hn
    simp only [St.eff]
    rcases List.mem_cons.1 h with h | h
    · cases h
      rw [eff_not hn.1]
      simp [St.setOb]
    · exact eff_mem hn.2 h

theorem eff_tm : ∀ {f : Eff} {s : St}, (s.eff f).tm = s.tm
  | [], s => rfl
  | (i, o) :: f, s => by simp only [St.eff]; rw [eff_tm]; rfl

/-- A call is behind us: the blocks of bl have been written, nothing else. -/
theorem RelAt.called {w' : World} (h : RelAt w0 S0 own N m cap S st a w) {bl : List Nat} (ha : After bl w w') (hbl : ∀ b ∈ bl, w0.heap.size ≤ b ∨ b ∈ own) {S' : Nat → Prop} (hS : ∀ b, S b → S' b)
    (hS' : ∀ b, S' b → b < w'.heap.size ∧ (S b ∨ w.heap.size ≤ b ∨ b ∈ bl)) (hn : ∀ b ∈ bl, ¬ S b) {st' : St} (htm : st'.tm = st.tm)
    (hob : ∀ id, (st'.ob id = st.ob id ∧ (st.ob id ≠ none → m id ∉ bl)) ∨ (m id ∈ bl ∧ st.ob id ≠ none ∧ Ob.leads (st.ob id) (st'.ob id) ∧ ∀ o, st'.ob id = some o → ObRep w' S' m cap st'.ob id o)) :
    RelAt w0 S0 own N m cap S' st' a w' := by
  have hsame : Same S w w' := fun b hb => ha.block b (h.stab b hb) fun hm => hn b hm hb
  have ht : Turn (fun _ => False) m m cap cap st.ob st'.ob := by
    refine ⟨fun i _ => ?_, fun i _ => ⟨rfl, rfl⟩⟩
    rcases hob i with ⟨e, _⟩ | ⟨_, _, e, _⟩
    · rw [e]; exact Ob.leads_refl _
    · exact e
  have hlive : ∀ i, st'.ob i ≠ none → st.ob i ≠ none := fun i hi => by
    rcases hob i with ⟨e, _⟩ | ⟨_, e, _⟩
    · rwa [e] at hi
    · exact e
  refine ⟨h.size, h.defers, ⟨ha.os.trans h.after.os, ha.tape.trans h.after.tape, ha.output.trans h.after.output, Nat.le_trans h.after.size ha.size, fun k hk hno => ?_⟩, fun b hb => (hS' b hb).1, fun b hb => hS b (h.base b hb), fun b hb => ?_, fun i o hi => ?_, fun i o hi => ?_, fun i j hi hj he => h.inj i j (hlive i hi) (hlive j hj) he, fun t ht' => ?_, fun t ht' => by rw [htm]; exact h.far t ht'⟩
  · rw [ha.block k (Nat.lt_of_lt_of_le hk h.after.size) fun hm => ?_]
    · exact h.after.block k hk hno
    · rcases hbl k hm with hb | hb
      · omega
      · exact hno hb
  · rcases (hS' b hb).2 with hb | hb | hb
    · exact h.fresh b hb
    · exact .inr (.inl (Nat.le_trans h.after.size hb))
    · exact .inr (hbl b hb)
  · rcases hob i with ⟨e, e2⟩ | ⟨_, _, _, e⟩
    · have hi' : st.ob i = some o := by rw [← e]; exact hi
      have hni := e2 (by rw [hi']; simp)
      have hlt := (h.obs i o hi').lt
      have hblk := ha.block (m i) hlt hni
      cases o with
      | var cs =>
        obtain ⟨⟨arr, ty, k1, k2⟩, k3⟩ := h.obs i _ hi'
        exact ⟨⟨arr, ty, by rw [hblk]; exact k1, AVreps.keep hsame hS ht _ _ (AV.frees_false _) k2⟩, fun hs => by
          rcases (hS' _ hs).2 with q | q | q
          · exact k3 q
          · omega
          · exact hni q⟩
      | row sz es =>
        obtain ⟨k1, k3⟩ := h.obs i _ hi'
        exact ⟨k1.keep hsame hS hblk, fun hs => by
          rcases (hS' _ hs).2 with q | q | q
          · exact k3 q
          · omega
          · exact hni q⟩
      | frz sz es =>
        obtain ⟨k1, k3⟩ := h.obs i _ hi'
        exact ⟨k1.keep hsame hS hblk, hS _ k3⟩
    · exact e o hi
  · obtain ⟨o2, h2⟩ := Option.ne_none_iff_exists'.1 (hlive i (by rw [hi]; simp))
    exact h.mine i o2 h2
  · rw [htm]
    exact AVrep.keep hsame hS ht _ _ (AV.free_false _) (h.tm t ht')

theorem outEff_ids : ∀ {vs : List AV} {as : List Arg} {outs : List (Option Arg)}, st.args vs as → Arg.like as outs → (outEff vs as outs).map (·.1) = mutsOf vs as
  | [], [], outs, _, _ => by simp [outEff, mutsOf]
  | [], _ :: _, outs, h, _ => h.elim
  | _ :: _, [], outs, h, _ => h.elim
  | v :: vs, b :: as, outs, h, hl => by
    unfold St.args at h
    obtain ⟨hb, hr⟩ := h
    cases b with
    | val y =>
      have := outEff_ids (outs := outs) hr (by cases outs <;> simpa [Arg.like] using hl)
      cases v <;> simp [outEff, mutsOf, this]
    | agg ys =>
      have := outEff_ids (outs := outs) hr (by cases outs <;> simpa [Arg.like] using hl)
      cases v <;> simp [outEff, mutsOf, this]
    | mrow sz es =>
      unfold St.arg at hb
      obtain ⟨id, rfl, hb2⟩ := hb
      cases outs with
      | nil => simp [Arg.like] at hl
      | cons o os =>
        cases o with
        | none =>
          have := outEff_ids (outs := os) hr (by simpa [Arg.like] using hl)
          simp [outEff, mutsOf, this]
        | some b' =>
          cases b' with
          | mrow sz' es' =>
            have := outEff_ids (outs := os) hr (by simp only [Arg.like] at hl; exact hl.2.2)
            simp [outEff, mutsOf, this]
          | _ => simp [Arg.like] at hl
    | mvar cs =>
      unfold St.arg at hb
      obtain ⟨id, rfl, hb2⟩ := hb
      cases outs with
      | nil => simp [Arg.like] at hl
      | cons o os =>
        cases o with
        | none =>
          have := outEff_ids (outs := os) hr (by simpa [Arg.like] using hl)
          simp [outEff, mutsOf, this]
        | some b' =>
          cases b' with
          | mvar cs' =>
            have := outEff_ids (outs := os) hr (by simp only [Arg.like] at hl; exact hl.2)
            simp [outEff, mutsOf, this]
          | _ => simp [Arg.like] at hl

/-- What the outs say, in memory. -/
theorem outEff_rep {w' : World} {S' : Nat → Prop} {ob' : Id → Option Ob} : ∀ {vs : List AV} {as : List Arg} {outs : List (Option Arg)}, st.args vs as → Arg.like as outs → OutReps w' S' (abOf m cap vs as) outs →
    ∀ e ∈ outEff vs as outs, Ob.leads (st.ob e.1) e.2 ∧ ∀ o, e.2 = some o → ObRep w' S' m cap ob' e.1 o
  | [], [], outs, _, _, _ => by simp [outEff]
  | [], _ :: _, outs, h, _, _ => h.elim
  | _ :: _, [], outs, h, _, _ => h.elim
  | v :: vs, b :: as, outs, h, hl, ho => by
    unfold St.args at h
    obtain ⟨hb, hr⟩ := h
    cases b with
    | val y =>
      have hab : abOf m cap (v :: vs) (Arg.val y :: as) = abOf m cap vs as := by cases v <;> simp [abOf]
      rw [hab] at ho
      have := outEff_rep (ob' := ob') (outs := outs) hr (by cases outs <;> simpa [Arg.like] using hl) ho
      have hoe : outEff (v :: vs) (Arg.val y :: as) outs = outEff vs as outs := by cases v <;> simp [outEff]
      rw [hoe]
      exact this
    | agg ys =>
      have hab : abOf m cap (v :: vs) (Arg.agg ys :: as) = abOf m cap vs as := by cases v <;> simp [abOf]
      rw [hab] at ho
      have := outEff_rep (ob' := ob') (outs := outs) hr (by cases outs <;> simpa [Arg.like] using hl) ho
      have hoe : outEff (v :: vs) (Arg.agg ys :: as) outs = outEff vs as outs := by cases v <;> simp [outEff]
      rw [hoe]
      exact this
    | mrow sz es =>
      unfold St.arg at hb
      obtain ⟨id, rfl, hb2⟩ := hb
      cases outs with
      | nil => simp [Arg.like] at hl
      | cons o os =>
        simp only [abOf] at ho
        unfold OutReps at ho
        obtain ⟨ho1, ho2⟩ := ho
        cases o with
        | none =>
          have := outEff_rep (ob' := ob') (outs := os) hr (by simpa [Arg.like] using hl) ho2
          intro e he
          simp only [outEff, List.mem_cons] at he
          rcases he with rfl | he
          · exact ⟨by rw [hb2]; trivial, fun o ho => by cases ho⟩
          · exact this e he
        | some b' =>
          cases b' with
          | mrow sz' es' =>
            simp only [Arg.like] at hl
            obtain ⟨rfl, hl2, hl3⟩ := hl
            have := outEff_rep (ob' := ob') (outs := os) hr hl3 ho2
            intro e he
            simp only [outEff, List.mem_cons] at he
            rcases he with rfl | he
            · refine ⟨by rw [hb2]; exact ⟨rfl, hl2.symm⟩, fun o ho => ?_⟩
              cases ho
              exact ho1
            · exact this e he
          | _ => simp [Arg.like] at hl
    | mvar cs =>
      unfold St.arg at hb
      obtain ⟨id, rfl, hb2⟩ := hb
      cases outs with
      | nil => simp [Arg.like] at hl
      | cons o os =>
        simp only [abOf] at ho
        unfold OutReps at ho
        obtain ⟨ho1, ho2⟩ := ho
        cases o with
        | none =>
          have := outEff_rep (ob' := ob') (outs := os) hr (by simpa [Arg.like] using hl) ho2
          intro e he
          simp only [outEff, List.mem_cons] at he
          rcases he with rfl | he
          · exact ⟨by rw [hb2]; trivial, fun o ho => by cases ho⟩
          · exact this e he
        | some b' =>
          cases b' with
          | mvar cs' =>
            simp only [Arg.like] at hl
            obtain ⟨hl2, hl3⟩ := hl
            have := outEff_rep (ob' := ob') (outs := os) hr hl3 ho2
            intro e he
            simp only [outEff, List.mem_cons] at he
            rcases he with rfl | he
            · refine ⟨by rw [hb2]; show (cs.map AV.t).length = (cs'.map AV.t).length; simp [hl2], fun o ho => ?_⟩
              cases ho
              obtain ⟨⟨⟨arr, ty, k1, k2⟩, k3⟩, k4⟩ := ho1
              exact ⟨⟨arr, ty, k1, (creps_cells k1 k2).1 k3⟩, k4⟩
            · exact this e he
          | _ => simp [Arg.like] at hl

end Cal
