/- A calculus of our own, twenty-sixth part: a call of a Go function. No program is named here. -/
import Derived.Test.YthaebckdhcnkfaaCalZ
set_option linter.unusedSimpArgs false
set_option linter.unusedVariables false
namespace Cal
open Go Go.RowKit

variable {P : Program} {w0 w : World} {S0 S S2 : Nat → Prop} {own : List Nat} {N : Nat} {m cap : Id → Nat} {st : St} {a : Act} {d : Nat}

theorem run_call {o : Oper} {f : FuncId} {xs : Array Operand} {ts : Array TypeId} (hf : enters P f) (ho : o.op = .call ⟨.value (.func f), xs, ts⟩) : (execOp a.eval o).run P w = .ok (.enter f (xs.map a.eval)) w := by
  obtain ⟨fn, h1, h2, h3⟩ := hf
  have h4 : execOp a.eval o = callFunc f (#[] ++ xs.map a.eval ++ #[]) := by
    simp only [execOp, ho]
    rfl
  rw [h4]
  have h2' : ¬ fn.name = "runtime.NumGoroutine" := by simpa using h2
  have h3' : ¬ fn.body = none := fun e => by rw [e] at h3; cases h3
  simp [callFunc, go_sem, h1, h2', h3']

/-! ### what is flat needs no block that is not written -/
theorem Trep.flat {x : T} {u : Value} (hf : x.flat) (h : Trep w S x u) : Trep w S2 x u := by
  cases x with
  | v y => unfold Trep at *; exact h
  | sl es => exact hf.elim
theorem Creps.flat {b : Nat} {off : Nat} {xs : List T} (hf : ∀ x ∈ xs, T.flat x) (h : Creps w S b off xs) : Creps w S2 b off xs := by
  rw [Creps_iff] at *
  intro j x hx
  obtain ⟨u, h1, h2⟩ := h j x hx
  exact ⟨u, h1, h2.flat (hf x (List.mem_of_getElem? hx))⟩
theorem Ereps.flat {b : Nat} {off sz : Nat} {es : List (List T)} (hf : ∀ e ∈ es, ∀ x ∈ e, T.flat x) (h : Ereps w S b off sz es) : Ereps w S2 b off sz es := by
  rw [Ereps_iff] at *
  intro i e he
  obtain ⟨h1, h2⟩ := h i e he
  exact ⟨h1, h2.flat (hf e (List.mem_of_getElem? he))⟩
theorem OwnRow.flat {b sz c : Nat} {es : List (List T)} (hf : ∀ e ∈ es, ∀ x ∈ e, T.flat x) (h : OwnRow w S b sz es c) : OwnRow w S2 b sz es c :=
  ⟨h.1, h.2.1, h.2.2.1, h.2.2.2.flat hf⟩
mutual
theorem RVrep.flat : ∀ {r : RV} {u : Value} {bs : List Nat}, r.flat → RVrep w S r u bs → RVrep w S2 r u bs
  | .t x, u, bs, hf, h => by
    unfold RV.flat at hf
    unfold RVrep at *
    exact ⟨h.1, h.2.flat hf⟩
  | .own sz es, u, bs, hf, h => by
    unfold RV.flat at hf
    unfold RVrep at *
    obtain ⟨b, c, h1, h2, h3⟩ := h
    exact ⟨b, c, h1, h2, h3.flat hf⟩
  | .agg cs, u, bs, hf, h => by
    unfold RV.flat at hf
    unfold RVrep at *
    obtain ⟨us, h1, h2⟩ := h
    exact ⟨us, h1, RVreps.flat hf h2⟩
  | .tup cs, u, bs, hf, h => by
    unfold RV.flat at hf
    unfold RVrep at *
    obtain ⟨us, h1, h2⟩ := h
    exact ⟨us, h1, RVreps.flat hf h2⟩
  | .var cs, u, bs, hf, h => by
    unfold RV.flat at hf
    unfold RVrep at *
    obtain ⟨b, h1, h2, h3⟩ := h
    exact ⟨b, h1, h2, h3.1, h3.2.flat hf⟩
theorem RVreps.flat : ∀ {rs : List RV} {us : List Value} {bs : List Nat}, RV.flats rs → RVreps w S rs us bs → RVreps w S2 rs us bs
  | [], us, bs, hf, h => by
    unfold RVreps at *
    exact h
  | r :: rs, us, bs, hf, h => by
    unfold RV.flats at hf
    unfold RVreps at *
    obtain ⟨u, us', b1, b2, h1, h2, h3, h4⟩ := h
    exact ⟨u, us', b1, b2, h1, h2, RVrep.flat hf.1 h3, RVreps.flat hf.2 h4⟩
end
theorem OutReps.flat : ∀ {ab : List (Nat × Nat)} {outs : List (Option Arg)}, Arg.flats outs → (∀ b ∈ ab, ¬ S2 b.1) → OutReps w S ab outs → OutReps w S2 ab outs
  | [], [], _, _, _ => by unfold OutReps; trivial
  | [], _ :: _, _, _, h => by unfold OutReps at h; exact h.elim
  | _ :: _, [], _, _, h => by unfold OutReps at h; exact h.elim
  | b :: bs, o :: os, hf, hb, h => by
    unfold Arg.flats at hf
    unfold OutReps at *
    refine ⟨?_, OutReps.flat hf.2 (fun x hx => hb x (by simp [hx])) h.2⟩
    have h1 := h.1
    have hf1 := hf.1
    cases o with
    | none => trivial
    | some x =>
      cases x with
      | mrow sz es => exact ⟨h1.1.flat hf1, hb b (by simp)⟩
      | mvar cs => exact ⟨⟨h1.1.1, h1.1.2.flat hf1⟩, hb b (by simp)⟩
      | val _ => exact h1.elim
      | agg _ => exact h1.elim

/-- An object that lives behind the call is one of the outs. -/
theorem outEff_live : ∀ {vs : List AV} {as : List Arg} {outs : List (Option Arg)}, st.args vs as → Arg.like as outs → ∀ id o, (id, some o) ∈ outEff vs as outs → m id ∈ liveOuts (abOf m cap vs as) outs
  | [], [], outs, _, _, id, o, h => by simp [outEff] at h
  | [], _ :: _, outs, h, _, _, _, _ => h.elim
  | _ :: _, [], outs, h, _, _, _, _ => h.elim
  | v :: vs, b :: as, outs, h, hl, id, o, hm => by
    unfold St.args at h
    obtain ⟨hb, hr⟩ := h
    cases b with
    | val y =>
      have hab : abOf m cap (v :: vs) (Arg.val y :: as) = abOf m cap vs as := by cases v <;> simp [abOf]
      have hoe : outEff (v :: vs) (Arg.val y :: as) outs = outEff vs as outs := by cases v <;> simp [outEff]
      rw [hoe] at hm
      rw [hab]
      exact outEff_live hr (by cases outs <;> simpa [Arg.like] using hl) id o hm
    | agg ys =>
      have hab : abOf m cap (v :: vs) (Arg.agg ys :: as) = abOf m cap vs as := by cases v <;> simp [abOf]
      have hoe : outEff (v :: vs) (Arg.agg ys :: as) outs = outEff vs as outs := by cases v <;> simp [outEff]
      rw [hoe] at hm
      rw [hab]
      exact outEff_live hr (by cases outs <;> simpa [Arg.like] using hl) id o hm
    | mrow sz es =>
      unfold St.arg at hb
      obtain ⟨i, rfl, hb2⟩ := hb
      cases outs with
      | nil => simp [Arg.like] at hl
      | cons x os =>
        cases x with
        | none =>
          simp only [outEff, List.mem_cons] at hm
          rcases hm with hm | hm
          · cases hm
          · simp only [abOf, liveOuts]
            exact outEff_live hr (by simpa [Arg.like] using hl) id o hm
        | some b' =>
          cases b' with
          | mrow sz' es' =>
            simp only [outEff, List.mem_cons] at hm
            simp only [abOf, liveOuts, List.mem_cons]
            rcases hm with hm | hm
            · cases hm; exact .inl rfl
            · exact .inr (outEff_live hr (by simp only [Arg.like] at hl; exact hl.2.2) id o hm)
          | _ => simp [Arg.like] at hl
    | mvar cs =>
      unfold St.arg at hb
      obtain ⟨i, rfl, hb2⟩ := hb
      cases outs with
      | nil => simp [Arg.like] at hl
      | cons x os =>
        cases x with
        | none =>
          simp only [outEff, List.mem_cons] at hm
          rcases hm with hm | hm
          · cases hm
          · simp only [abOf, liveOuts]
            exact outEff_live hr (by simpa [Arg.like] using hl) id o hm
        | some b' =>
          cases b' with
          | mvar cs' =>
            simp only [outEff, List.mem_cons] at hm
            simp only [abOf, liveOuts, List.mem_cons]
            rcases hm with hm | hm
            · cases hm; exact .inl rfl
            · exact .inr (outEff_live hr (by simp only [Arg.like] at hl; exact hl.2) id o hm)
          | _ => simp [Arg.like] at hl

theorem like_args {vs : List AV} {as : List Arg} : st.args vs as → ∀ v ∈ valsOf vs as, (st.toT v).isSome := by
  intro h v hv
  induction vs generalizing as with
  | nil => cases as <;> simp [valsOf] at hv
  | cons x vs ih =>
    cases as with
    | nil => exact h.elim
    | cons b as =>
      unfold St.args at h
      obtain ⟨hb, hr⟩ := h
      cases b with
      | val y =>
        unfold St.arg at hb
        have : valsOf (x :: vs) (Arg.val y :: as) = x :: valsOf vs as := by simp [valsOf]
        rw [this] at hv
        rcases List.mem_cons.1 hv with rfl | hv
        · simp [hb]
        · exact ih hr hv
      | agg ys =>
        unfold St.arg at hb
        obtain ⟨cs, rfl, hb2⟩ := hb
        simp only [valsOf, AV.cells, List.mem_append] at hv
        rcases hv with hv | hv
        · exact (toTs_some hb2).2.1 v hv
        · exact ih hr hv
      | mrow sz es => exact ih hr (by cases x <;> simpa [valsOf] using hv)
      | mvar cs => exact ih hr (by cases x <;> simpa [valsOf] using hv)

/-- The step of a call, up to the objects that come back. -/
theorem call_outs {Sb : Nat → Prop} {stb : St} {w' : World} {vs : List AV} {as : List Arg} {outs : List (Option Arg)} (hb : RelAt w0 S0 own N m cap Sb stb a w) (harg : st.args vs as) (hlike : Arg.like as outs) (hnd : (mutsOf vs as).Nodup)
    (hsame : ∀ id ∈ mutsOf vs as, stb.ob id = st.ob id) (hlive : ∀ id ∈ mutsOf vs as, st.ob id ≠ none) (hlive2 : ∀ id, stb.ob id ≠ none → st.ob id ≠ none) (hinj : ∀ id id', st.ob id ≠ none → st.ob id' ≠ none → m id = m id' → id = id')
    (hab : (abOf m cap vs as).map (·.1) = (mutsOf vs as).map m) (hmine : ∀ id, st.ob id ≠ none → w0.heap.size ≤ m id ∨ m id ∈ own)
    (ha : After ((abOf m cap vs as).map (·.1)) w w') {S2 : Nat → Prop} (hS : ∀ b, Sb b → S2 b) (hS' : ∀ b, S2 b → b < w'.heap.size ∧ (Sb b ∨ w.heap.size ≤ b ∨ b ∈ (abOf m cap vs as).map (·.1)))
    (hn : ∀ b ∈ (abOf m cap vs as).map (·.1), ¬ Sb b) (ho : OutReps w' S2 (abOf m cap vs as) outs) : RelAt w0 S0 own N m cap S2 (stb.eff (outEff vs as outs)) a w' := by
  have hids := outEff_ids (st := st) (outs := outs) harg hlike
  refine hb.called ha (fun b hbm => ?_) hS hS' hn eff_tm fun id => ?_
  · rw [hab] at hbm
    obtain ⟨i, hi, rfl⟩ := List.mem_map.1 hbm
    exact hmine i (hlive i hi)
  · by_cases hid : id ∈ mutsOf vs as
    · right
      have hmem : id ∈ (outEff vs as outs).map (·.1) := by rw [hids]; exact hid
      obtain ⟨⟨i, o⟩, he, rfl⟩ := List.mem_map.1 hmem
      have hval : (stb.eff (outEff vs as outs)).ob i = o := eff_mem (by rw [hids]; exact hnd) he
      obtain ⟨g1, g2⟩ := outEff_rep (ob' := (stb.eff (outEff vs as outs)).ob) (m := m) (cap := cap) harg hlike ho _ he
      refine ⟨by rw [hab]; exact List.mem_map.2 ⟨i, hid, rfl⟩, by rw [hsame i hid]; exact hlive i hid, by rw [hval, hsame i hid]; exact g1, fun o' ho' => ?_⟩
      rw [hval] at ho'
      exact g2 o' ho'
    · left
      refine ⟨eff_not (by rw [hids]; exact hid), fun hne hm => ?_⟩
      rw [hab] at hm
      obtain ⟨j, hj, hjm⟩ := List.mem_map.1 hm
      exact hid (hinj j id (hlive j hj) (hlive2 id hne) hjm ▸ hj)

theorem args_muts : ∀ {vs : List AV} {as : List Arg}, st.args vs as → ∀ id ∈ mutsOf vs as, (∃ sz es, st.ob id = some (.row sz es)) ∨ ∃ cs, st.ob id = some (.var cs)
  | [], [], _, id, h => by simp [mutsOf] at h
  | [], _ :: _, h, _, _ => h.elim
  | _ :: _, [], h, _, _ => h.elim
  | v :: vs, b :: as, h, id, hm => by
    unfold St.args at h
    obtain ⟨hb, hr⟩ := h
    cases b with
    | val y =>
      have hms : mutsOf (v :: vs) (Arg.val y :: as) = mutsOf vs as := by cases v <;> simp [mutsOf]
      rw [hms] at hm
      exact args_muts hr id hm
    | agg ys =>
      have hms : mutsOf (v :: vs) (Arg.agg ys :: as) = mutsOf vs as := by cases v <;> simp [mutsOf]
      rw [hms] at hm
      exact args_muts hr id hm
    | mrow sz es =>
      unfold St.arg at hb
      obtain ⟨i, rfl, hb2⟩ := hb
      simp only [mutsOf, List.mem_cons] at hm
      rcases hm with rfl | hm
      · exact .inl ⟨sz, es, hb2⟩
      · exact args_muts hr id hm
    | mvar cs =>
      unfold St.arg at hb
      obtain ⟨i, rfl, hb2⟩ := hb
      simp only [mutsOf, List.mem_cons] at hm
      rcases hm with rfl | hm
      · exact .inr ⟨_, hb2⟩
      · exact args_muts hr id hm

theorem Free.effs {p : Id → Prop} : ∀ {f : Eff} {s : St}, s.Free p → (∀ e ∈ f, ¬ p e.1) → (∀ e ∈ f, ∀ cs, e.2 = some (.var cs) → AV.frees p cs) → (s.eff f).Free p
  | [], s, h, _, _ => h
  | (id, o) :: f, s, h, h1, h2 => by
    simp only [St.eff]
    exact Free.effs (Free.setOb h (h1 (id, o) (by simp)) (fun cs hcs => h2 (id, o) (by simp) cs hcs)) (fun e he => h1 e (by simp [he])) (fun e he => h2 e (by simp [he]))

theorem outEff_free {p : Id → Prop} : ∀ {vs : List AV} {as : List Arg} {outs : List (Option Arg)}, ∀ e ∈ outEff vs as outs, ∀ cs, e.2 = some (.var cs) → AV.frees p cs
  | [], [], _, e, h, _, _ => by simp [outEff] at h
  | [], _ :: _, _, e, h, _, _ => by simp [outEff] at h
  | _ :: _, [], _, e, h, _, _ => by simp [outEff] at h
  | v :: vs, b :: as, outs, e, h, cs, hcs => by
    have rest : e ∈ outEff vs as outs → AV.frees p cs := fun h => outEff_free e h cs hcs
    have rest2 : ∀ o os, outs = o :: os → e ∈ outEff vs as os → AV.frees p cs := fun o os _ h => outEff_free e h cs hcs
    cases v <;> cases b <;> first
      | exact rest (by simpa [outEff] using h)
      | (cases outs with
        | nil => exact rest (by simpa [outEff] using h)
        | cons o os =>
          simp only [outEff, List.mem_cons] at h
          rcases h with h | h
          · split at h <;> subst h <;> first
              | cases hcs; done
              | (simp only [Option.some.injEq, Ob.var.injEq] at hcs; subst hcs; exact AV.frees_map_t _ _)
          · exact rest2 o os rfl h)

theorem evs_rep {S1 : Nat → Prop} {st1 : St} (h1 : RelAt w0 S0 own N m cap S1 st1 a w) (hz : Froze st st1) : ∀ xs : List Operand, AVreps w S1 m cap st1.ob (xs.map st.ev) (xs.map a.eval)
  | [] => by simp only [List.map_nil]; unfold AVreps; rfl
  | x :: xs => by
    simp only [List.map_cons]
    unfold AVreps
    have hx := h1.ev x
    have hev : st1.ev x = st.ev x := by cases x <;> simp [St.ev, hz.1]
    rw [hev] at hx
    exact ⟨_, _, rfl, hx, evs_rep h1 hz xs⟩

theorem AVreps_append {ob : Id → Option Ob} : ∀ {xs ys : List AV} {us vs : List Value}, AVreps w S m cap ob xs us → AVreps w S m cap ob ys vs → AVreps w S m cap ob (xs ++ ys) (us ++ vs)
  | [], ys, us, vs, h, k => by
    unfold AVreps at h
    subst h
    exact k
  | x :: xs, ys, us, vs, h, k => by
    unfold AVreps at h
    obtain ⟨u, us', rfl, h1, h2⟩ := h
    simp only [List.cons_append]
    unfold AVreps
    exact ⟨u, us' ++ vs, rfl, h1, AVreps_append h2 k⟩

theorem flat_rep {ob : Id → Option Ob} : ∀ {sh : Shape} {vs : List AV} {us : List Value} {vsF : List AV}, AVreps w S m cap ob vs us → flatV sh vs = some vsF → ∃ usF, flatU sh us = some usF ∧ AVreps w S m cap ob vsF usF
  | [], [], us, vsF, hr, h => by
    unfold AVreps at hr
    subst hr
    simp only [flatV, Option.some.injEq] at h
    subst h
    exact ⟨[], rfl, by unfold AVreps; rfl⟩
  | [], _ :: _, _, _, _, h => by simp [flatV] at h
  | none :: _, [], _, _, _, h => by simp [flatV] at h
  | some _ :: _, [], _, _, _, h => by simp [flatV] at h
  | none :: sh, v :: vs, us, vsF, hr, h => by
    unfold AVreps at hr
    obtain ⟨u, us', rfl, h1, h2⟩ := hr
    simp only [flatV] at h
    cases hf : flatV sh vs with
    | none => rw [hf] at h; cases h
    | some l =>
      rw [hf] at h
      simp only [Option.map_some, Option.some.injEq] at h
      subst h
      obtain ⟨usF, g1, g2⟩ := flat_rep h2 hf
      refine ⟨u :: usF, by simp only [flatU, g1, Option.map_some], ?_⟩
      unfold AVreps
      exact ⟨u, usF, rfl, h1, g2⟩
  | some n :: sh, v :: vs, us, vsF, hr, h => by
    unfold AVreps at hr
    obtain ⟨u, us', rfl, h1, h2⟩ := hr
    cases v with
    | agg cs =>
      simp only [flatV] at h
      split at h
      · rename_i hn
        cases hf : flatV sh vs with
        | none => rw [hf] at h; cases h
        | some l =>
          rw [hf] at h
          simp only [Option.map_some, Option.some.injEq] at h
          subst h
          obtain ⟨usF, g1, g2⟩ := flat_rep h2 hf
          unfold AVrep at h1
          obtain ⟨ws, rfl, h1⟩ := h1
          have hl := h1.len
          refine ⟨ws ++ usF, ?_, AVreps_append h1 g2⟩
          simp only [flatU, List.size_toArray]
          rw [if_pos (by omega), g1]
          simp
      · cases h
    | _ => simp [flatV] at h

/-- The step of a call. -/
theorem call_wp {o : Oper} {f : FuncId} {xs : Array Operand} {ts : Array TypeId} (ho : o.op = .call ⟨.value (.func f), xs, ts⟩) {H : Nat → Nat × Nat} (h : RelAt w0 S0 own N m cap S st a w) (hH : ∀ k, m (base + k, 0) = (H k).1 ∧ cap (base + k, 0) = (H k).2) (hN : N ≤ base) (hd : ∀ t, o.dst = some t → t < N)
    (hf : ∀ t, o.dst = some t → st.Free (·.1 = t)) {as : List Arg} {res : RV} {outs : List (Option Arg)} {keep : Bool} {sh : Shape} {vsF : List AV} (hfl : flatV sh (xs.toList.map st.ev) = some vsF) (h1 : st.args vsF as) (h2 : apartArgs vsF as) (h3 : CallsFS P f sh as res outs)
    (h4 : keep = true → res.flat ∧ Arg.flats outs) {next : Act → World → Prop} {Q : Exit → Act → World → Prop}
    (hk : ∀ a' w', Rel w0 S0 own H N ((st.eff (callFrz keep st vsF as ++ outEff vsF as outs ++ (retOf o.dst res).2)).put o.dst (retOf o.dst res).1) a' w' → next a' w') : o.wp P a w next Q := by
  obtain ⟨S1, r1, q1, z1, v1⟩ := freeze_all h (valsOf vsF as) (Froze.refl st) (like_args h1)
  have hsame : ∀ id ∈ mutsOf vsF as, (st.eff (st.frzEffs (valsOf vsF as))).ob id = st.ob id := fun id hid => frz_other (h2.2 id hid) st
  obtain ⟨usF, hflu, hrepF⟩ := flat_rep (evs_rep r1 z1 xs.toList) hfl
  obtain ⟨g1, g2, g3⟩ := args_rep h r1 z1 vsF usF as hrepF h1 v1 hsame
  obtain ⟨c1, c2, c3⟩ := h3
  have hab : ∀ b, b ∈ (abOf m cap vsF as).map (·.1) → ∃ id ∈ mutsOf vsF as, st.ob id ≠ none ∧ m id = b := fun b hb => by
    rw [g2] at hb
    obtain ⟨id, h1, h2⟩ := List.mem_map.1 hb
    exact ⟨id, h1, g3 id h1, h2⟩
  have hnS1 : ∀ b ∈ (abOf m cap vsF as).map (·.1), ¬ S1 b := fun b hb => by
    obtain ⟨id, hid, _, rfl⟩ := hab b hb
    rcases args_muts h1 id hid with ⟨sz, es, e⟩ | ⟨cs, e⟩
    · have := r1.obs id (.row sz es) (by rw [hsame id hid]; exact e)
      exact this.2
    · have := r1.obs id (.var cs) (by rw [hsame id hid]; exact e)
      exact this.2
  have hc := c3 w S1 _ _ _ r1.stab hflu g1 (by
    rw [g2]
    unfold List.Nodup
    rw [List.pairwise_map]
    exact List.Pairwise.imp_of_mem (fun {x y} hx hy hne he => hne (h.inj x y (g3 x hx) (g3 y hy) he)) h2.1) (fun b hb => by
    obtain ⟨id, _, hl, rfl⟩ := hab b hb
    obtain ⟨o', ho'⟩ := Option.ne_none_iff_exists'.1 hl
    exact (h.obs id o' ho').lt)
  unfold Oper.wp
  rw [run_call c1 ho, Oper.upon_enter]
  have hus : (xs.toList.map a.eval).toArray = xs.map a.eval := by
    apply Array.toList_inj.1
    simp
  rw [hus] at hc
  refine Calls.mono hc fun e w' he => ?_
  obtain ⟨u, S', bs, rfl, k1, k2, k3, k4, k5, k6, k7⟩ := he
  show next (a.put o.dst u) w'
  apply hk
  have hbs : ∀ b ∈ bs, (w0.heap.size ≤ b ∨ b ∈ own) ∧ ∀ id, st.ob id ≠ none → m id = b → id ∈ mutsOf vsF as := fun b hb => by
    obtain ⟨_, _, hb3⟩ := k6 b hb
    rcases hb3 with hb3 | hb3
    · refine ⟨.inl (Nat.le_trans h.after.size hb3), fun id hid he => ?_⟩
      obtain ⟨o', ho'⟩ := Option.ne_none_iff_exists'.1 hid
      have := (h.obs id o' ho').lt
      omega
    · obtain ⟨id, hid, hl, rfl⟩ := hab b hb3
      refine ⟨?_, fun id' hid' he => h.inj id id' hl hid' he.symm ▸ hid⟩
      obtain ⟨o', ho'⟩ := Option.ne_none_iff_exists'.1 hl
      exact h.mine id o' ho'
  have hmine : ∀ id, st.ob id ≠ none → w0.heap.size ≤ m id ∨ m id ∈ own := fun id hl => by
    obtain ⟨o', ho'⟩ := Option.ne_none_iff_exists'.1 hl
    exact h.mine id o' ho'
  have hlive2 : ∀ id, (st.eff (st.frzEffs (valsOf vsF as))).ob id ≠ none → st.ob id ≠ none := fun id hid => by
    rcases z1.2 id with e | ⟨sz, es, e, _⟩
    · rwa [e] at hid
    · rcases e with e | e <;> rw [e] <;> simp
  have hids := outEff_ids (st := st) (outs := outs) h1 c2
  have main : ∃ Sb, RelAt w0 S0 own N m cap Sb (st.eff (callFrz keep st vsF as ++ outEff vsF as outs)) a w' ∧ RVrep w' Sb res u bs ∧ (∀ b ∈ bs, ¬ Sb b) := by
    cases keep with
    | true =>
      obtain ⟨f1, f2⟩ := h4 rfl
      refine ⟨S, ?_, k4.flat f1, fun b hb hS => (k6 b hb).1 (k2 b (q1 b hS))⟩
      simp only [callFrz, if_true, List.nil_append]
      exact call_outs h h1 c2 h2.1 (fun _ _ => rfl) g3 (fun _ hid => hid) h.inj g2 hmine k1 (fun _ hb => hb) (fun b hb => ⟨Nat.lt_of_lt_of_le (h.stab b hb) k1.size, .inl hb⟩) (fun b hb hS => hnS1 b hb (q1 b hS))
        (OutReps.flat f2 (fun b hb hS => hnS1 b.1 (List.mem_map.2 ⟨b, hb, rfl⟩) (q1 b.1 hS)) k7)
    | false =>
      refine ⟨S', ?_, k4, fun b hb => (k6 b hb).1⟩
      simp only [callFrz, Bool.false_eq_true, if_false]
      rw [eff_append]
      exact call_outs r1 h1 c2 h2.1 hsame g3 hlive2 h.inj g2 hmine k1 k2 k3 hnS1 k7
  obtain ⟨Sb, m1, m2, m3⟩ := main
  rw [eff_append]
  cases hdst : o.dst with
  | none =>
    simp only [retOf]
    exact ⟨m, cap, Sb, m1, hH⟩
  | some t =>
    simp only [retOf]
    have hfree : (st.eff (callFrz keep st vsF as ++ outEff vsF as outs)).Free (from' t 0) := by
      have h0 : st.Free (from' t 0) := (hf t hdst).mono fun id hid => hid.1
      refine Free.effs h0 (fun e he hp => ?_) (fun e he cs hcs => ?_)
      · rcases List.mem_append.1 he with he | he
        · unfold callFrz at he
          split at he
          · simp at he
          · exact (frzEffs_at _).1 e he (h0.none _ hp)
        · have : e.1 ∈ (outEff vsF as outs).map (·.1) := List.mem_map.2 ⟨e, he, rfl⟩
          rw [hids] at this
          exact g3 _ this (h0.none _ hp)
      · rcases List.mem_append.1 he with he | he
        · unfold callFrz at he
          split at he
          · simp at he
          · exact absurd hcs ((frzEffs_at _).2 e he cs)
        · exact outEff_free e he cs hcs
    obtain ⟨m', cap', p1, p2, p3⟩ := ret_rep res m1 hfree m2 (List.nodup_append.1 k5).1 fun b hb => by
      refine ⟨m3 b hb, (hbs b hb).1, fun id hid he => ?_⟩
      have hl : st.ob id ≠ none := by
        by_cases hm : id ∈ mutsOf vsF as
        · exact g3 id hm
        · rw [eff_append] at hid
          rw [eff_not (by rw [hids]; exact hm)] at hid
          unfold callFrz at hid
          split at hid
          · exact hid
          · exact hlive2 id hid
      have hm := (hbs b hb).2 id hl he
      have hmem : id ∈ (outEff vsF as outs).map (·.1) := by rw [hids]; exact hm
      obtain ⟨⟨i, o'⟩, he', rfl⟩ := List.mem_map.1 hmem
      rw [eff_append, eff_mem (by rw [hids]; exact h2.1) he'] at hid
      obtain ⟨o2, rfl⟩ := Option.ne_none_iff_exists'.1 hid
      have := outEff_live (m := m) (cap := cap) h1 c2 _ _ he'
      exact (List.nodup_append.1 k5).2.2 b hb _ this he.symm
    refine ⟨m', cap', Sb, p1.rel.put (fun t' ht' => hd t' (by rw [hdst]; exact ht')) p2, fun k => ?_⟩
    have ht : t < base := Nat.lt_of_lt_of_le (hd t hdst) hN
    obtain ⟨e1, e2, _⟩ := p1.old (base + k, 0) (fun hf => Nat.ne_of_gt (Nat.lt_of_lt_of_le ht (Nat.le_add_right base k)) hf.1)
    rw [e1, e2]
    exact hH k

end Cal
