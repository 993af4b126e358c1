/- A calculus of our own, twenty-seventh part: one operation of a region: what it gives, of what that depends, what it touches. No program is named here. -/
import Derived.Test.YthaebckdhcnkfaaCalZa
set_option linter.unusedSimpArgs false
set_option linter.unusedVariables false
namespace Cal
open Go Go.RowKit

variable {P : Program} {w0 w : World} {S0 S S2 : Nat → Prop} {own : List Nat} {N : Nat} {m cap : Id → Nat} {st st2 : St} {a : Act} {d : Nat} {rg : Rg} {o : Oper} {v : AV} {f : Eff} {p : Id → Prop}

/-- What an operation gives: its value, what it puts into objects. -/
def OutOp (P : Program) (rg : Rg) (o : Oper) (st : St) (v : AV) (f : Eff) : Prop :=
  match o.op with
  | .call { callee := .value (.func g), args := args, .. } => ∃ sh vsF as res outs keep, flatV sh (args.toList.map st.ev) = some vsF ∧ st.args vsF as ∧ apartArgs vsF as ∧ CallsFS P g sh as res outs ∧ (keep = true → res.flat ∧ Arg.flats outs) ∧
      (rg.mute o.dst = true → callFrz keep st vsF as ++ outEff vsF as outs = []) ∧ v = (retOf o.dst res).1 ∧ f = callFrz keep st vsF as ++ outEff vsF as outs ++ (retOf o.dst res).2
  | op => muted (noisy op && rg.mute o.dst) (o.dst.getD 0) (evOp P (o.dst.getD 0) st op) = some (v, f)

def OutG (P : Program) (rg : Rg) (o : Oper) (st : St) (v : AV) (f : Eff) : Prop :=
  (guardA st rg.ops o.guard = some true ∧ OutOp P rg o st v f) ∨ (guardA st rg.ops o.guard = some false ∧ v = .tup [] ∧ f = [])

theorem OutOp_call {g : FuncId} {args : Array Operand} {ats : Array TypeId} (hop : o.op = .call ⟨.value (.func g), args, ats⟩) : OutOp P rg o st v f ↔ ∃ sh vsF as res outs keep, flatV sh (args.toList.map st.ev) = some vsF ∧ st.args vsF as ∧ apartArgs vsF as ∧ CallsFS P g sh as res outs ∧ (keep = true → res.flat ∧ Arg.flats outs) ∧
      (rg.mute o.dst = true → callFrz keep st vsF as ++ outEff vsF as outs = []) ∧ v = (retOf o.dst res).1 ∧ f = callFrz keep st vsF as ++ outEff vsF as outs ++ (retOf o.dst res).2 := by
  unfold OutOp
  simp only [hop]
theorem OutOp_other (hne : ∀ (g : FuncId) (args : Array Operand) (ats : Array TypeId), o.op ≠ .call ⟨.value (.func g), args, ats⟩) : OutOp P rg o st v f ↔ muted (noisy o.op && rg.mute o.dst) (o.dst.getD 0) (evOp P (o.dst.getD 0) st o.op) = some (v, f) := by
  unfold OutOp
  split
  · exact absurd (by assumption) (hne _ _ _)
  · exact Iff.rfl
theorem call_or (o : Oper) : (∃ (g : FuncId) (args : Array Operand) (ats : Array TypeId), o.op = .call ⟨.value (.func g), args, ats⟩) ∨ ∀ (g : FuncId) (args : Array Operand) (ats : Array TypeId), o.op ≠ .call ⟨.value (.func g), args, ats⟩ := by
  by_cases h : ∃ (g : FuncId) (args : Array Operand) (ats : Array TypeId), o.op = .call ⟨.value (.func g), args, ats⟩
  · exact .inl h
  · exact .inr fun g args ats e => h ⟨g, args, ats, e⟩

theorem wpOp_out {K : St → Prop} (h : wpOp P rg o st K) : ∃ v f, OutOp P rg o st v f ∧ K ((st.eff f).put o.dst v) := by
  rcases call_or o with ⟨g, args, ats, hop⟩ | hne
  · unfold wpOp at h
    simp only [hop] at h
    obtain ⟨sh, vsF, as, res, outs, keep, h0, h1, h2, h3, h4, h5, h6⟩ := h
    exact ⟨_, _, (OutOp_call hop).2 ⟨sh, vsF, as, res, outs, keep, h0, h1, h2, h3, h4, h5, rfl, rfl⟩, h6⟩
  · unfold wpOp at h
    split at h
    · exact absurd (by assumption) (hne _ _ _)
    · obtain ⟨r, h1, h2⟩ := h
      exact ⟨r.1, r.2, (OutOp_other hne).2 h1, h2⟩

theorem out_wpOp {K : St → Prop} (h : OutOp P rg o st v f) (hk : K ((st.eff f).put o.dst v)) : wpOp P rg o st K := by
  rcases call_or o with ⟨g, args, ats, hop⟩ | hne
  · obtain ⟨sh, vsF, as, res, outs, keep, h0, h1, h2, h3, h4, h5, rfl, rfl⟩ := (OutOp_call hop).1 h
    unfold wpOp
    simp only [hop]
    exact ⟨sh, vsF, as, res, outs, keep, h0, h1, h2, h3, h4, h5, hk⟩
  · unfold wpOp
    split
    · exact absurd (by assumption) (hne _ _ _)
    · exact ⟨(v, f), (OutOp_other hne).1 h, hk⟩

theorem wpL_out {l : List Oper} {K : St → Prop} (h : wpL P rg (o :: l) st K) : ∃ v f, OutG P rg o st v f ∧ wpL P rg l ((st.eff f).put o.dst v) K := by
  rw [wpL] at h
  obtain ⟨b, hb, h⟩ := h
  cases b with
  | true =>
    obtain ⟨v, f, h1, h2⟩ := wpOp_out h
    exact ⟨v, f, .inl ⟨hb, h1⟩, h2⟩
  | false => exact ⟨.tup [], [], .inr ⟨hb, rfl, rfl⟩, h⟩

theorem out_wpL {l : List Oper} {K : St → Prop} (h : OutG P rg o st v f) (hk : wpL P rg l ((st.eff f).put o.dst v) K) : wpL P rg (o :: l) st K := by
  rw [wpL]
  rcases h with ⟨hb, h⟩ | ⟨hb, rfl, rfl⟩
  · exact ⟨true, hb, out_wpOp h hk⟩
  · exact ⟨false, hb, hk⟩

theorem muted_inv {b : Bool} {x : Option (AV × Eff)} (h : muted b d x = some (v, f)) : x = some (v, f) ∧ (b = true → ∀ e ∈ f, e.1.1 = d) := by
  unfold muted at h
  split at h
  · split at h
    · split at h
      · rename_i hall
        cases h
        refine ⟨rfl, fun _ e he => ?_⟩
        have := List.all_eq_true.1 hall e he
        simpa using this
      · cases h
    · cases h
  · rename_i hb
    exact ⟨h, fun hb' => absurd hb' hb⟩

/-- Does an operation make objects? -/
def mkO : Op → Bool
  | .alloc _ | .box .. | .buildSlice .. | .makeSlice .. => true
  | .call { callee := .builtin .len, .. } => false
  | .call _ => true
  | _ => false

theorem makes_cons (o : Oper) (l : List Oper) : makes (o :: l) = (if mkO o.op = true then o.dst.toList else []) ++ makes l := by
  simp only [makes, mkO]
  split <;> simp_all

theorem mkr_mkO {op : Op} (h : mkr op = true) : mkO op = true := by
  unfold mkr at h
  split at h <;> first | rfl | cases h

/-- What is asked of every operation. -/
def okOper (N : Nat) (o : Oper) : Bool := (match o.dst with
  | some t => decide (t < N)
  | none => !(mkr o.op))

theorem okOper_lt (h : okOper N o = true) {t : Nat} (ht : o.dst = some t) : t < N := by
  unfold okOper at h
  rw [ht] at h
  simpa using h
theorem okOper_mkr (h : okOper N o = true) (hm : mkr o.op = true) : o.dst = some (o.dst.getD 0) := by
  unfold okOper at h
  cases hd : o.dst with
  | some t => rfl
  | none => rw [hd] at h; simp [hm] at h

/-- Operations that make nothing don't depend on the place. -/
theorem evOp_place {op : Op} (h : mkr op = false) (d d' : Nat) : evOp P d st op = evOp P d' st op := by
  unfold evOp
  split <;> first | rfl | (cases h; done) | skip
  rename_i b xs ts
  unfold callA
  split <;> first | rfl | (cases h; done)

theorem retA_at : ∀ (r : RV) (d k : Nat), (∀ e ∈ (retA d k r).2.1, e.1.1 = d) ∧ (∀ p : Id → Prop, (∀ k, ¬ p (d, k)) → (retA d k r).1.free p ∧ Eff.free p (retA d k r).2.1) := by
  intro r d k
  exact RV.rec (motive_1 := fun r => ∀ d k, (∀ e ∈ (retA d k r).2.1, e.1.1 = d) ∧ (∀ p : Id → Prop, (∀ k, ¬ p (d, k)) → (retA d k r).1.free p ∧ Eff.free p (retA d k r).2.1))
    (motive_2 := fun rs => ∀ d k, (∀ e ∈ (retAs d k rs).2.1, e.1.1 = d) ∧ (∀ p : Id → Prop, (∀ k, ¬ p (d, k)) → AV.frees p (retAs d k rs).1 ∧ Eff.free p (retAs d k rs).2.1))
    (fun x d k => ⟨by simp [retA], fun p hp => ⟨by simp [retA, AV.free], by simp [retA, Eff.free]⟩⟩)
    (fun sz es d k => ⟨by simp [retA], fun p hp => ⟨by simp [retA, AV.free, hp], by simp [retA, Eff.free]⟩⟩)
    (fun cs ih d k => ⟨by simpa only [retA] using (ih d k).1, fun p hp => ⟨by simp only [retA]; unfold AV.free; exact ((ih d k).2 p hp).1, by simpa only [retA] using ((ih d k).2 p hp).2⟩⟩)
    (fun cs ih d k => ⟨by simpa only [retA] using (ih d k).1, fun p hp => ⟨by simp only [retA]; unfold AV.free; exact ((ih d k).2 p hp).1, by simpa only [retA] using ((ih d k).2 p hp).2⟩⟩)
    (fun cs d k => ⟨by simp [retA], fun p hp => ⟨by simp [retA, AV.free, hp], fun e he cs' hcs => by
      simp [retA] at he
      subst he
      simp at hcs
      subst hcs
      exact AV.frees_map_t _ _⟩⟩)
    (fun d k => ⟨by simp [retAs], fun p hp => ⟨by simp [retAs, AV.frees], by simp [retAs, Eff.free]⟩⟩)
    (fun r rs ih1 ih2 d k => ⟨fun e he => by
      simp only [retAs] at he
      rcases List.mem_append.1 he with he | he
      · exact (ih1 d k).1 e he
      · exact (ih2 d _).1 e he, fun p hp => ⟨by
        simp only [retAs]
        unfold AV.frees
        exact ⟨((ih1 d k).2 p hp).1, ((ih2 d _).2 p hp).1⟩, by
        simp only [retAs]
        exact Eff.free_append ((ih1 d k).2 p hp).2 ((ih2 d _).2 p hp).2⟩⟩) r d k

/-- Does an operation write on objects that others have? -/
def loudW (rg : Rg) (o : Oper) : Bool :=
  match o.op with
  | .store .. => true
  | .buildSlice .. => !(rg.mute o.dst)
  | .call { callee := .builtin .append, .. } => true
  | .call { callee := .value _, .. } => !(rg.mute o.dst)
  | _ => false

theorem wr_store {op : Op} (h : wr op = true) (hm : mkr op = false) : ∃ t x y, op = .store t x y := by
  unfold wr at h
  split at h
  · exact ⟨_, _, _, rfl⟩
  · cases hm
  · cases hm
  · cases h

theorem wr_mkr {op : Op} (h : wr op = true) (hm : mkr op = true) : (∃ t n ps, op = .buildSlice t n ps) ∨ ∃ args ats, op = .call ⟨.builtin .append, args, ats⟩ := by
  unfold wr at h
  split at h
  · cases hm
  · exact .inl ⟨_, _, _, rfl⟩
  · exact .inr ⟨_, _, rfl⟩
  · cases h

/-- Which objects an operation touches. -/
theorem out_at (hok : okOper N o = true) (h : OutOp P rg o st v f) : Eff.at (fun id => (mkO o.op = true ∧ o.dst = some id.1) ∨ (loudW rg o = true ∧ st.ob id ≠ none)) f := by
  rcases call_or o with ⟨g, args, ats, hop⟩ | hne
  · obtain ⟨sh, vsF, as, res, outs, keep, h0, h1, h2, h3, h4, h5, rfl, rfl⟩ := (OutOp_call hop).1 h
    refine Eff.at_append ?_ ?_
    · cases hm : rg.mute o.dst with
      | true =>
        rw [h5 hm]
        exact Eff.at_nil _
      | false =>
        have hl : loudW rg o = true := by simp [loudW, hop, hm]
        refine Eff.at_append ?_ ?_
        · unfold callFrz
          split
          · exact Eff.at_nil _
          · exact Eff.at_mono (frzEffs_at _).1 fun id hid => .inr ⟨hl, hid⟩
        · intro e he
          have hmem : e.1 ∈ (outEff vsF as outs).map (·.1) := List.mem_map.2 ⟨e, he, rfl⟩
          rw [outEff_ids h1 h3.2.1] at hmem
          right
          refine ⟨hl, ?_⟩
          rcases args_muts h1 _ hmem with ⟨sz, es, e'⟩ | ⟨cs, e'⟩ <;> rw [e'] <;> simp
    · cases hd : o.dst with
      | none => exact Eff.at_nil _
      | some t =>
        intro e he
        left
        exact ⟨by rw [hop]; rfl, by rw [(retA_at res t 0).1 e he]⟩
  · obtain ⟨h1, h2⟩ := muted_inv ((OutOp_other hne).1 h)
    intro e he
    cases hm : mkr o.op with
    | true =>
      have hd := okOper_mkr hok hm
      rcases (evOp_mild h1).at' e he with e1 | ⟨e1, e2⟩
      · left
        refine ⟨mkr_mkO hm, ?_⟩
        rw [e1]
        exact hd
      · by_cases hn : (noisy o.op && rg.mute o.dst) = true
        · left
          refine ⟨mkr_mkO hm, ?_⟩
          rw [h2 hn e he]
          exact hd
        · right
          refine ⟨?_, e2⟩
          rcases wr_mkr e1 hm with ⟨t, n, ps, hop⟩ | ⟨args, ats, hop⟩
          · rw [hop] at hn
            simpa [loudW, hop, noisy] using hn
          · simp [loudW, hop]
    | false =>
      right
      have hat : ∀ d', e.1 = (d', 0) ∨ (wr o.op = true ∧ st.ob e.1 ≠ none) := fun d' => by
        rw [evOp_place hm _ d'] at h1
        exact (evOp_mild h1).at' e he
      have hw : wr o.op = true ∧ st.ob e.1 ≠ none := by
        rcases hat 0 with e1 | e1
        · rcases hat 1 with e2 | e2
          · rw [e1] at e2; cases e2
          · exact e2
        · exact e1
      refine ⟨?_, hw.2⟩
      obtain ⟨t, x, y, hop⟩ := wr_store hw.1 hm
      simp [loudW, hop]

theorem outG_at (hok : okOper N o = true) (h : OutG P rg o st v f) : Eff.at (fun id => (mkO o.op = true ∧ o.dst = some id.1) ∨ (loudW rg o = true ∧ st.ob id ≠ none)) f := by
  rcases h with ⟨_, h⟩ | ⟨_, _, rfl⟩
  · exact out_at hok h
  · exact Eff.at_nil _

theorem frees_map_ev (hf : st.Free p) : ∀ xs : List Operand, AV.frees p (xs.map st.ev)
  | [] => by simp [AV.frees]
  | x :: xs => by
    simp only [List.map_cons]
    unfold AV.frees
    exact ⟨hf.ev x, frees_map_ev hf xs⟩

/-- What an operation gives names nothing that isn't made yet. -/
theorem out_free {t : Nat} (hok : okOper N o = true) (ht : mkO o.op = true → o.dst ≠ some t) (hf : st.Free (·.1 = t)) (h : OutOp P rg o st v f) : v.free (·.1 = t) ∧ Eff.free (·.1 = t) f := by
  rcases call_or o with ⟨g, args, ats, hop⟩ | hne
  · obtain ⟨sh, vsF, as, res, outs, keep, h0, h1, h2, h3, h4, h5, rfl, rfl⟩ := (OutOp_call hop).1 h
    have hc : Eff.free (fun id : Id => id.1 = t) (callFrz keep st vsF as ++ outEff vsF as outs) := by
      refine Eff.free_append ?_ ?_
      · unfold callFrz
        split
        · exact Eff.free_nil _
        · exact (frzEffs_at _).2.free _
      · exact fun e he cs hcs => outEff_free e he cs hcs
    cases hd : o.dst with
    | none => exact ⟨by simp [retOf, AV.free], Eff.free_append hc (Eff.free_nil _)⟩
    | some t' =>
      have hne : t' ≠ t := fun e => ht (by rw [hop]; rfl) (by rw [hd, e])
      obtain ⟨g1, g2⟩ := (retA_at res t' 0).2 (fun id : Id => id.1 = t) (fun k => hne)
      exact ⟨g1, Eff.free_append hc g2⟩
  · obtain ⟨h1, h2⟩ := muted_inv ((OutOp_other hne).1 h)
    cases hm : mkr o.op with
    | true =>
      have hd := okOper_mkr hok hm
      exact (evOp_mild h1).free _ hf fun e => ht (mkr_mkO hm) (by rw [hd]; exact congrArg some e)
    | false =>
      rw [evOp_place hm _ (t + 1)] at h1
      exact (evOp_mild h1).free _ hf (by simp)

theorem Free.put {s : St} (h : s.Free p) {dst : Option Nat} (hv : v.free p) : (s.put dst v).Free p := by
  cases dst with
  | none => exact h
  | some t =>
    refine ⟨fun u => ?_, h.var, h.none⟩
    simp only [St.put]
    split
    · exact hv
    · exact h.tm u

theorem outG_Free {t : Nat} (hok : okOper N o = true) (ht : mkO o.op = true → o.dst ≠ some t) (hf : st.Free (·.1 = t)) (h : OutG P rg o st v f) : ((st.eff f).put o.dst v).Free (·.1 = t) := by
  have hat := outG_at hok h
  have hfr : v.free (·.1 = t) ∧ Eff.free (·.1 = t) f := by
    rcases h with ⟨_, h⟩ | ⟨_, rfl, rfl⟩
    · exact out_free hok ht hf h
    · exact ⟨by simp [AV.free, AV.frees], Eff.free_nil _⟩
  refine Free.put (Free.effs hf (fun e he hp => ?_) hfr.2) hfr.1
  rcases hat e he with ⟨h1, h2⟩ | ⟨_, h2⟩
  · exact ht h1 (by rw [h2, ← hp])
  · exact h2 (hf.none _ hp)

/-! ### of what it depends -/
theorem arg_congr (h : Agree p st st2) {x : AV} (hx : x.free p) {b : Arg} (hb : st.arg x b) : st2.arg x b := by
  cases b with
  | val y =>
    unfold St.arg at *
    rw [← toT_congr h hx]; exact hb
  | agg ys =>
    unfold St.arg at *
    obtain ⟨cs, rfl, h2⟩ := hb
    unfold AV.free at hx
    exact ⟨cs, rfl, by rw [← toTs_congr h hx]; exact h2⟩
  | mrow sz es =>
    unfold St.arg at *
    obtain ⟨id, rfl, h2⟩ := hb
    unfold AV.free at hx
    exact ⟨id, rfl, by rw [← h id hx]; exact h2⟩
  | mvar cs =>
    unfold St.arg at *
    obtain ⟨id, rfl, h2⟩ := hb
    unfold AV.free at hx
    exact ⟨id, rfl, by rw [← h id hx]; exact h2⟩
theorem args_congr (h : Agree p st st2) : ∀ {vs : List AV} {as : List Arg}, AV.frees p vs → st.args vs as → st2.args vs as
  | [], [], _, _ => trivial
  | [], _ :: _, _, hb => hb.elim
  | _ :: _, [], _, hb => hb.elim
  | v :: vs, b :: as, hv, hb => by
    unfold AV.frees at hv
    unfold St.args at hb ⊢
    exact ⟨arg_congr h hv.1 hb.1, args_congr h hv.2 hb.2⟩
theorem frees_valsOf : ∀ {vs : List AV} {as : List Arg}, AV.frees p vs → AV.frees p (valsOf vs as)
  | [], as, _ => by cases as <;> simp [valsOf, AV.frees]
  | v :: vs, [], _ => by simp [valsOf, AV.frees]
  | v :: vs, b :: as, hv => by
    unfold AV.frees at hv
    have ih := frees_valsOf (as := as) hv.2
    cases b with
    | val y => simp only [valsOf]; unfold AV.frees; exact ⟨hv.1, ih⟩
    | agg ys => simp only [valsOf]; exact frees_append (AV.cells_free hv.1) ih
    | mrow sz es => simpa only [valsOf] using ih
    | mvar cs => simpa only [valsOf] using ih

theorem Agree.symm (h : Agree p st st2) : Agree p st2 st := fun id hid => (h id hid).symm

theorem frees_flatV : ∀ {sh : Shape} {vs vsF : List AV}, AV.frees p vs → flatV sh vs = some vsF → AV.frees p vsF
  | [], [], vsF, _, h => by
    simp only [flatV, Option.some.injEq] at h
    subst h
    unfold AV.frees; trivial
  | [], _ :: _, _, _, h => by simp [flatV] at h
  | none :: _, [], _, _, h => by simp [flatV] at h
  | some _ :: _, [], _, _, h => by simp [flatV] at h
  | none :: sh, v :: vs, vsF, hf, h => by
    unfold AV.frees at hf
    simp only [flatV] at h
    cases hl : flatV sh vs with
    | none => rw [hl] at h; cases h
    | some l =>
      rw [hl] at h
      simp only [Option.map_some, Option.some.injEq] at h
      subst h
      unfold AV.frees
      exact ⟨hf.1, frees_flatV hf.2 hl⟩
  | some n :: sh, v :: vs, vsF, hf, h => by
    unfold AV.frees at hf
    cases v with
    | agg cs =>
      simp only [flatV] at h
      split at h
      · cases hl : flatV sh vs with
        | none => rw [hl] at h; cases h
        | some l =>
          rw [hl] at h
          simp only [Option.map_some, Option.some.injEq] at h
          subst h
          have h1 := hf.1
          unfold AV.free at h1
          exact frees_append h1 (frees_flatV hf.2 hl)
      · cases h
    | _ => simp [flatV] at h

theorem call_congr {g : FuncId} {args : Array Operand} {ats : Array TypeId} (hop : o.op = .call ⟨.value (.func g), args, ats⟩) (hvs : args.toList.map st2.ev = args.toList.map st.ev) (r1 : Agree p st st2) (hfr : AV.frees p (args.toList.map st.ev)) (h : OutOp P rg o st v f) : OutOp P rg o st2 v f := by
  obtain ⟨sh, vsF, as, res, outs, keep, h0, h1, h2, h3, h4, h5, rfl, rfl⟩ := (OutOp_call hop).1 h
  have hfF := frees_flatV hfr h0
  have hfz : callFrz keep st vsF as = callFrz keep st2 vsF as := by
    unfold callFrz
    rw [frzEffs_congr r1 (frees_valsOf hfF)]
  refine (OutOp_call hop).2 ?_
  rw [hvs]
  refine ⟨sh, vsF, as, res, outs, keep, h0, args_congr r1 hfF h1, h2, h3, h4, ?_, rfl, ?_⟩
  · rw [← hfz]; exact h5
  · rw [← hfz]

theorem out_congr (hx : ∀ x ∈ o.op.operands, st.ev x = st2.ev x) (hr : peeks o.op = true → Agree p st st2 ∧ st.Free p) : OutOp P rg o st v f ↔ OutOp P rg o st2 v f := by
  rcases call_or o with ⟨g, args, ats, hop⟩ | hne
  · obtain ⟨r1, r2⟩ := hr (by rw [hop]; rfl)
    have hvs : args.toList.map st2.ev = args.toList.map st.ev := List.map_congr_left fun x hx' => (hx x (by rw [hop]; simp [Op.operands, Call.operands]; right; simpa using hx')).symm
    have hfr := frees_map_ev r2 args.toList
    exact ⟨call_congr hop hvs r1 hfr, call_congr hop hvs.symm r1.symm (by rw [hvs]; exact hfr)⟩
  · rw [OutOp_other hne, OutOp_other hne, ← evOp_congr (P := P) hx hr]

theorem guardA_congr {ops : Array Oper} (hx : ∀ t ∈ o.looksAt ops, st.tm t = st2.tm t) : guardA st ops o.guard = guardA st2 ops o.guard := by
  cases hg : o.guard with
  | none => rfl
  | some jw =>
    obtain ⟨j, want⟩ := jw
    have e : ((ops[j]?).bind (·.dst)).map st.tm = ((ops[j]?).bind (·.dst)).map st2.tm := by
      cases hb : (ops[j]?).bind (·.dst) with
      | none => rfl
      | some t =>
        simp only [Option.map_some]
        rw [hx t (by unfold Oper.looksAt; rw [hg]; simp [hb])]
    simp only [guardA, e]

theorem outG_congr (hx : ∀ t ∈ o.looksAt rg.ops, st.tm t = st2.tm t) (hr : peeks o.op = true → Agree p st st2 ∧ st.Free p) : OutG P rg o st v f ↔ OutG P rg o st2 v f := by
  unfold OutG
  rw [← guardA_congr hx, out_congr (P := P) (rg := rg) (o := o) (v := v) (f := f) (fun x hx' => ?_) hr]
  cases x with
  | tmp t =>
    exact hx t (by unfold Oper.looksAt; exact List.mem_append_left _ (List.mem_filterMap.2 ⟨.tmp t, by simpa using hx', rfl⟩))
  | _ => rfl

end Cal
