/- A part of the proof: a calculus of our own over the model's code, and contracts of the program's functions. -/
import Derived.Tactics
import Derived.Test.YthiflnpbamlinaaG10
/- A calculus of our own, thirtieth part: a function, from its call to its return. No program is named here. -/
set_option linter.unusedSimpArgs false
set_option linter.unusedVariables false
namespace Cal
open Go Go.RowKit

variable {P : Program} {w0 w : World} {S0 S S1 S2 : Nat → Prop} {own : List Nat} {H : Nat → Nat × Nat} {X : Nat → Value} {N : Nat} {m cap : Id → Nat} {st st1 st2 : St} {a : Act} {d : Nat} {rg : Rg} {o : Oper} {v : AV} {f : Eff} {p : Id → Prop}

/-! ### results -/
def resA (P : Program) (st : St) : ResultVar → Option AV
  | .tmp t => some (st.tm t)
  | .cell ad t => (tinf P t).bind fun i => loadA st i.agg i.size (st.tm ad)

def pair2 (x y : Option AV) : Option AV := match x, y with
  | some a, some b => some (.tup [a, b])
  | _, _ => none
def pair3 (x y z : Option AV) : Option AV := match x, y, z with
  | some a, some b, some c => some (.tup [a, b, c])
  | _, _, _ => none

def resultA (P : Program) (st : St) : List ResultVar → Option AV
  | [] => some (.tup [])
  | [r] => resA P st r
  | [r, s] => pair2 (resA P st r) (resA P st s)
  | [r, s, t] => pair3 (resA P st r) (resA P st s) (resA P st t)
  | _ => none

def resRun (tmps : Array Value) : ResultVar → Sem Value
  | .tmp t => pure (tmps.getD t undef)
  | .cell ad t => do loadVar t (← asAddr (tmps.getD ad undef))

theorem resA_run (h : RelAt w0 S0 own X N m cap S st a w) {r : ResultVar} (hr : resA P st r = some v) : ∃ u, (resRun a.tmps r).run P w = .ok u w ∧ AVrep w S m cap st.ob v u := by
  cases r with
  | tmp t =>
    simp only [resA, Option.some.injEq] at hr
    subst hr
    exact ⟨_, rfl, h.ev (.tmp t)⟩
  | cell ad t =>
    simp only [resA] at hr
    cases hi : tinf P t with
    | none => simp [hi] at hr
    | some i =>
      simp only [hi, Option.bind_some] at hr
      obtain ⟨b, off, us, h1, h2, h3, h4, h5⟩ := loadA_ok h (h.ev (.tmp ad)) hr
      refine ⟨_, ?_, h4⟩
      have h1' : a.tmps.getD ad undef = .pointer (some ⟨b, off, none⟩) := h1
      have := run_loadAt hi b off us h2 h3 h5
      unfold Instr.loadAt Instr.sureAddr at this
      show ((do loadVar t (← asAddr (a.tmps.getD ad undef))) : Sem Value).run P w = _
      rw [h1']
      exact this

theorem result_run (h : RelAt w0 S0 own X N m cap S st a w) {fn : Func} (hr : resultA P st fn.results.toList = some v) : ∃ u, (results fn a.tmps).run P w = .ok u w ∧ AVrep w S m cap st.ob v u := by
  have he : results fn a.tmps = (do let vs ← fn.results.mapM (resRun a.tmps); pure (if h : vs.size = 1 then vs[0] else .tuple vs)) := rfl
  rw [he]
  generalize hl : fn.results.toList = l at hr
  have hrs : fn.results = l.toArray := by rw [← hl]
  rw [hrs]
  match l, hr with
  | [], hr =>
    simp only [resultA, Option.some.injEq] at hr
    subst hr
    exact ⟨.tuple #[], by simp, by unfold AVrep; exact ⟨[], rfl, by unfold AVreps; rfl⟩⟩
  | [r], hr =>
    simp only [resultA] at hr
    obtain ⟨u, h1, h2⟩ := resA_run h hr
    exact ⟨u, by simp [h1], h2⟩
  | [r, s], hr =>
    simp only [resultA] at hr
    unfold pair2 at hr
    split at hr
    · rename_i x y hx hy
      cases hr
      obtain ⟨u1, h1, h2⟩ := resA_run h hx
      obtain ⟨u2, h3, h4⟩ := resA_run h hy
      refine ⟨.tuple #[u1, u2], by simp [h1, h3], ?_⟩
      unfold AVrep
      exact ⟨[u1, u2], rfl, by unfold AVreps; exact ⟨_, _, rfl, h2, by unfold AVreps; exact ⟨_, _, rfl, h4, by unfold AVreps; rfl⟩⟩⟩
    · cases hr
  | [r, s, t], hr =>
    simp only [resultA] at hr
    unfold pair3 at hr
    split at hr
    · rename_i x y z hx hy hz
      cases hr
      obtain ⟨u1, h1, h2⟩ := resA_run h hx
      obtain ⟨u2, h3, h4⟩ := resA_run h hy
      obtain ⟨u3, h5, h6⟩ := resA_run h hz
      refine ⟨.tuple #[u1, u2, u3], by simp [h1, h3, h5], ?_⟩
      unfold AVrep
      exact ⟨[u1, u2, u3], rfl, by unfold AVreps; exact ⟨_, _, rfl, h2, by unfold AVreps; exact ⟨_, _, rfl, h4, by unfold AVreps; exact ⟨_, _, rfl, h6, by unfold AVreps; rfl⟩⟩⟩⟩
    · cases hr
  | _ :: _ :: _ :: _ :: _, hr => simp [resultA] at hr

mutual
/-- The objects that are handed back, to be written on. -/
def ownIds (st : St) : AV → List Id
  | .row id _ i n => match st.ob id with
    | some (.row _ es) => if i = 0 ∧ n = es.length then [id] else []
    | _ => []
  | .ptr id _ _ => [id]
  | .agg cs => ownIdss st cs
  | .tup cs => ownIdss st cs
  | .mp id => match st.ob id with
    | some (.map ..) => [id]
    | _ => []
  | _ => []
def ownIdss (st : St) : List AV → List Id
  | [] => []
  | v :: vs => ownIds st v ++ ownIdss st vs
end

mutual
/-- What is handed back to be read. -/
def frzVals (st : St) : AV → List AV
  | .row id sz i n => match st.ob id with
    | some (.row _ es) => if i = 0 ∧ n = es.length then [] else [.row id sz i n]
    | _ => [.row id sz i n]
  | .ptr id _ _ => match st.ob id with
    | some (.var cs) => cs
    | _ => []
  | .agg cs => frzValss st cs
  | .tup cs => frzValss st cs
  | .mp id => match st.ob id with
    | some (.fmap ..) => [.mp id]
    | _ => []
  | _ => []
def frzValss (st : St) : List AV → List AV
  | [] => []
  | v :: vs => frzVals st v ++ frzValss st vs
end

theorem rv_ids : ∀ (v : AV) {r : RV}, st.toRV v = some r → (∀ id ∈ ownIds st v, st.ob id ≠ none) ∧ ∀ x ∈ frzVals st v, (st.toT x).isSome := by
  intro v
  refine AV.rec (motive_1 := fun v => ∀ {r : RV}, st.toRV v = some r → (∀ id ∈ ownIds st v, st.ob id ≠ none) ∧ ∀ x ∈ frzVals st v, (st.toT x).isSome)
    (motive_2 := fun vs => ∀ {rs : List RV}, st.toRVs vs = some rs → (∀ id ∈ ownIdss st vs, st.ob id ≠ none) ∧ ∀ x ∈ frzValss st vs, (st.toT x).isSome) ?_ ?_ ?_ ?_ ?_ ?_ ?_ ?_ ?_ ?_ ?_ ?_ ?_ v
  · intro x r _
    simp [ownIds, frzVals]
  · intro id sz i n r hr
    simp only [St.toRV] at hr
    simp only [ownIds, frzVals]
    cases ho : st.ob id with
    | none => rw [ho] at hr; cases hr
    | some o =>
      cases o with
      | row sz' es =>
        dsimp only
        split
        · simp [ho]
        · simp [St.toT, ho]
      | frz sz' es => simp [St.toT, ho]
      | _ => rw [ho] at hr; cases hr
  · intro id i j r hr
    simp only [St.toRV] at hr
    simp only [ownIds, frzVals]
    split at hr
    · cases ho : st.ob id with
      | none => rw [ho] at hr; cases hr
      | some o =>
        rw [ho] at hr
        cases o with
        | var cs =>
          dsimp only at hr ⊢
          cases hc : st.toTs cs with
          | none => simp [hc] at hr
          | some xs => exact ⟨by simp [ho], (toTs_some hc).2.1⟩
        | _ => cases hr
    · cases hr
  · intro cs r _
    simp [ownIds, frzVals]
  · intro cs r _
    simp [ownIds, frzVals]
  · intro cs ih r hr
    simp only [St.toRV] at hr
    cases hc : st.toRVs cs with
    | none => simp [hc] at hr
    | some xs => simpa only [ownIds, frzVals] using ih hc
  · intro cs ih r hr
    simp only [St.toRV] at hr
    cases hc : st.toRVs cs with
    | none => simp [hc] at hr
    | some xs => simpa only [ownIds, frzVals] using ih hc
  · intro r hr
    simp [ownIds, frzVals]
  · intro id r hr
    simp only [St.toRV] at hr
    simp only [ownIds, frzVals]
    cases ho : st.ob id with
    | none => rw [ho] at hr; cases hr
    | some o =>
      cases o with
      | map kd kvs => simp [ho]
      | fmap kd kvs => simp [St.toT, ho]
      | _ => rw [ho] at hr; cases hr
  · intro f xs ys _ _ r hr
    simp [St.toRV] at hr
  · intro ty x _ r hr
    simp [St.toRV] at hr
  · intro rs _
    simp [ownIdss, frzValss]
  · intro v vs ih1 ih2 rs hr
    simp only [St.toRVs] at hr
    split at hr
    · rename_i r rs' h1 h2
      obtain ⟨a1, a2⟩ := ih1 h1
      obtain ⟨b1, b2⟩ := ih2 h2
      simp only [ownIdss, frzValss, List.mem_append]
      exact ⟨fun id hid => hid.elim (a1 id) (b1 id), fun x hx => hx.elim (a2 x) (b2 x)⟩
    · cases hr

theorem treps_creps {b : Nat} {arr : Array Value} {ty : TypeId} {cs : List T} (hb : w.heap[b]? = some (.cells arr ty (0, 0))) (h : Treps w S cs arr.toList) : OwnCells w S b cs := by
  obtain ⟨h1, h2⟩ := Treps_iff.1 h
  have hs : arr.size = cs.length := by rw [← h1, Array.length_toList]
  refine ⟨⟨arr, ty, hb, hs⟩, (creps_cells (m := fun _ => 0) (cap := fun _ => 0) (ob := fun _ => none) hb hs).2 ?_⟩
  rw [AVreps_iff]
  refine ⟨by simp [hs], fun j v u hj hu => ?_⟩
  rw [List.getElem?_map] at hj
  cases hc : cs[j]? with
  | none => simp [hc] at hj
  | some x =>
    simp [hc] at hj
    subst hj
    unfold AVrep
    exact h2 j x u hc hu

/-- What comes back, in memory. st1: what is handed back to be read has been frozen. -/
theorem rv_rep (h1 : RelAt w0 S0 own X N m cap S1 st1 a w) (hz : Froze st st1) : ∀ (v : AV) {u : Value} {r : RV}, st.toRV v = some r → AVrep w S1 m cap st1.ob v u → (∀ id, (∃ sz i n, AV.row id sz i n ∈ frzVals st v) ∨ AV.mp id ∈ frzVals st v → S1 (m id)) → (∀ id ∈ ownIds st v, st1.ob id = st.ob id) →
    RVrep w S1 r u ((ownIds st v).map m) ∧ ∀ id ∈ ownIds st v, ¬ S1 (m id) := by
  intro v
  refine AV.rec (motive_1 := fun v => ∀ {u : Value} {r : RV}, st.toRV v = some r → AVrep w S1 m cap st1.ob v u → (∀ id, (∃ sz i n, AV.row id sz i n ∈ frzVals st v) ∨ AV.mp id ∈ frzVals st v → S1 (m id)) → (∀ id ∈ ownIds st v, st1.ob id = st.ob id) → RVrep w S1 r u ((ownIds st v).map m) ∧ ∀ id ∈ ownIds st v, ¬ S1 (m id))
    (motive_2 := fun vs => ∀ {us : List Value} {rs : List RV}, st.toRVs vs = some rs → AVreps w S1 m cap st1.ob vs us → (∀ id, (∃ sz i n, AV.row id sz i n ∈ frzValss st vs) ∨ AV.mp id ∈ frzValss st vs → S1 (m id)) → (∀ id ∈ ownIdss st vs, st1.ob id = st.ob id) → RVreps w S1 rs us ((ownIdss st vs).map m) ∧ ∀ id ∈ ownIdss st vs, ¬ S1 (m id)) ?_ ?_ ?_ ?_ ?_ ?_ ?_ ?_ ?_ ?_ ?_ ?_ ?_ v
  · intro x u r hr hu _ _
    simp only [St.toRV, Option.some.injEq] at hr
    subst hr
    unfold AVrep at hu
    unfold RVrep
    exact ⟨⟨by simp [ownIds], hu⟩, by simp [ownIds]⟩
  · intro id sz i n u r hr hu hv hs
    have win : ∀ x, st.toT (.row id sz i n) = some x → r = .t x → ownIds st (.row id sz i n) = [] → AV.row id sz i n ∈ frzVals st (.row id sz i n) → RVrep w S1 r u ((ownIds st (.row id sz i n)).map m) ∧ ∀ id' ∈ ownIds st (.row id sz i n), ¬ S1 (m id') := by
      intro x hx hrx ho hm
      subst hrx
      rw [ho]
      refine ⟨?_, by simp⟩
      unfold RVrep
      refine ⟨rfl, ?_⟩
      have ht : Treps w S1 [x] [u] := toTs_rep h1 hz (toTs_one hx) (by unfold AVreps; exact ⟨_, _, rfl, hu, by unfold AVreps; rfl⟩) fun id' hmem => by
        simp at hmem
        subst hmem
        exact hv _ (.inl ⟨_, _, _, hm⟩)
      unfold Treps at ht
      exact ht.1
    simp only [St.toRV] at hr
    cases ho : st.ob id with
    | none => rw [ho] at hr; cases hr
    | some o =>
      rw [ho] at hr
      cases o with
      | row sz' es =>
        dsimp only at hr
        split at hr
        · rename_i hc
          cases hr
          have hoi : ownIds st (.row id sz i n) = [id] := by simp only [ownIds, ho]; rw [if_pos hc]
          rw [hoi] at hs ⊢
          have ho1 : st1.ob id = some (.row sz' es) := by rw [hs id (by simp), ho]
          obtain ⟨k1, k2⟩ := h1.obs id _ ho1
          unfold AVrep at hu
          obtain ⟨A, c, x1, x2, x3, x4, _, x5⟩ := hu
          obtain ⟨_, _, _, _, x9⟩ := x5 sz' es.length (by rw [ho1]; rfl)
          obtain ⟨rfl, rfl⟩ := x9 hc.1
          refine ⟨?_, by simpa using k2⟩
          unfold RVrep
          exact ⟨m id, cap id, rfl, by rw [x1, hc.2], k1⟩
        · rename_i hc
          cases hr
          exact win _ (by simp [St.toT, ho]) rfl (by simp only [ownIds, ho]; rw [if_neg hc]) (by simp only [frzVals, ho]; rw [if_neg hc]; simp)
      | frz sz' es =>
        dsimp only at hr
        cases hr
        exact win _ (by simp [St.toT, ho]) rfl (by simp only [ownIds, ho]) (by simp only [frzVals, ho]; simp)
      | _ => cases hr
  · intro id i j u r hr hu hv hs
    simp only [St.toRV] at hr
    simp only [ownIds, frzVals] at hs hv ⊢
    split at hr
    · rename_i hij
      obtain ⟨rfl, rfl⟩ := hij
      cases ho : st.ob id with
      | none => rw [ho] at hr; cases hr
      | some o =>
        rw [ho] at hr hv
        cases o with
        | var cs =>
          dsimp only at hr hv
          cases hc : st.toTs cs with
          | none => simp [hc] at hr
          | some xs =>
            simp only [hc, Option.map_some, Option.some.injEq] at hr
            subst hr
            have ho1 : st1.ob id = some (.var cs) := by rw [hs id (by simp), ho]
            obtain ⟨⟨arr, ty, k1, k2⟩, k3⟩ := h1.obs id _ ho1
            unfold AVrep at hu
            obtain ⟨ad, x1, x2, _⟩ := hu
            refine ⟨?_, by simpa using k3⟩
            unfold RVrep
            exact ⟨m id, rfl, by rw [x1, x2 _ ho1 rfl], treps_creps k1 (toTs_rep h1 hz hc k2 hv)⟩
        | _ => cases hr
    · cases hr
  · intro cs u r hr
    simp [St.toRV] at hr
  · intro cs u r hr
    simp [St.toRV] at hr
  · intro cs ih u r hr hu hv hs
    simp only [St.toRV] at hr
    simp only [ownIds, frzVals] at hs hv ⊢
    cases hc : st.toRVs cs with
    | none => simp [hc] at hr
    | some xs =>
      simp only [hc, Option.map_some, Option.some.injEq] at hr
      subst hr
      unfold AVrep at hu
      obtain ⟨us, hu1, hu2⟩ := hu
      obtain ⟨g1, g2⟩ := ih hc hu2 hv hs
      refine ⟨?_, g2⟩
      unfold RVrep
      exact ⟨us, hu1, g1⟩
  · intro cs ih u r hr hu hv hs
    simp only [St.toRV] at hr
    simp only [ownIds, frzVals] at hs hv ⊢
    cases hc : st.toRVs cs with
    | none => simp [hc] at hr
    | some xs =>
      simp only [hc, Option.map_some, Option.some.injEq] at hr
      subst hr
      unfold AVrep at hu
      obtain ⟨us, hu1, hu2⟩ := hu
      obtain ⟨g1, g2⟩ := ih hc hu2 hv hs
      refine ⟨?_, g2⟩
      unfold RVrep
      exact ⟨us, hu1, g1⟩
  · intro u r hr
    simp [St.toRV] at hr
  · intro id u r hr hu hv hs
    simp only [St.toRV] at hr
    unfold AVrep at hu
    obtain ⟨b, x1, x2⟩ := hu
    cases ho : st.ob id with
    | none => rw [ho] at hr; cases hr
    | some o =>
      rw [ho] at hr
      cases o with
      | map kd kvs =>
        dsimp only at hr
        cases hc : flatVals kvs with
        | none => simp [hc] at hr
        | some q =>
          simp only [hc, Option.map_some, Option.some.injEq] at hr
          subst hr
          have hoi : ownIds st (.mp id) = [id] := by simp only [ownIds, ho]
          rw [hoi] at hs ⊢
          have ho1 : st1.ob id = some (.map kd kvs) := by rw [hs id (by simp), ho]
          have hb : b = m id := x2 (by rw [ho1]; simp)
          subst hb
          obtain ⟨g1, g2⟩ := map_flat_rep h1 (.inl ⟨_, ho1, hc⟩)
          refine ⟨?_, by simpa using (h1.obs id _ ho1).2⟩
          unfold RVrep
          exact ⟨m id, rfl, x1, g1, g2⟩
      | fmap kd q =>
        cases hr
        have hoi : ownIds st (.mp id) = [] := by simp only [ownIds, ho]
        rw [hoi]
        refine ⟨?_, by simp⟩
        have ho1 : st1.ob id = some (.fmap kd q) := by
          rcases hz.lookM (.inr ho) with ⟨kvs', e, hr'⟩ | e
          · rcases hz.2 id with e1 | ⟨sz1, es1, e1, e2⟩ | ⟨kd', kvs2, r', e1, e2⟩
            · rw [e1, ho] at e; cases e
            · rw [ho] at e1
              rcases e1 with e1 | e1 <;> cases e1
            · rw [e2] at e; cases e
          · exact e
        have hb : b = m id := x2 (by rw [ho1]; simp)
        subst hb
        obtain ⟨g1, g2⟩ := map_flat_rep h1 (.inr ho1)
        unfold RVrep
        refine ⟨rfl, ?_⟩
        unfold Trep
        exact ⟨_, x1, (h1.obs id _ ho1).2, g1, g2⟩
      | _ => cases hr
  · intro f xs ys _ _ u r hr
    simp [St.toRV] at hr
  · intro ty x _ u r hr
    simp [St.toRV] at hr
  · intro us rs hr hu _ _
    simp only [St.toRVs, Option.some.injEq] at hr
    subst hr
    unfold AVreps at hu
    unfold RVreps
    exact ⟨⟨hu, by simp [ownIdss]⟩, by simp [ownIdss]⟩
  · intro v vs ih1 ih2 us rs hr hu hv hs
    simp only [St.toRVs] at hr
    split at hr
    · rename_i r rs' e1 e2
      cases hr
      unfold AVreps at hu
      obtain ⟨u, us', rfl, hu1, hu2⟩ := hu
      simp only [ownIdss, frzValss, List.mem_append] at hs hv ⊢
      obtain ⟨a1, a2⟩ := ih1 e1 hu1 (fun id hm => hv id (by rcases hm with ⟨sz, i, n, hm⟩ | hm; exact .inl ⟨sz, i, n, .inl hm⟩; exact .inr (.inl hm))) (fun id hid => hs id (.inl hid))
      obtain ⟨b1, b2⟩ := ih2 e2 hu2 (fun id hm => hv id (by rcases hm with ⟨sz, i, n, hm⟩ | hm; exact .inl ⟨sz, i, n, .inr hm⟩; exact .inr (.inr hm))) (fun id hid => hs id (.inr hid))
      refine ⟨?_, fun id hid => hid.elim (a2 id) (b2 id)⟩
      unfold RVreps
      exact ⟨u, us', _, _, rfl, by rw [List.map_append], a1, b1⟩
    · cases hr

/-! ### arguments -/
def Arg.mut : Arg → Bool
  | .mrow .. => true
  | .mvar _ => true
  | _ => false

/-- The arguments' blocks, the k-th argument's first. -/
def homes (g : Nat → Nat × Nat) : Nat → List Arg → List (Nat × Nat)
  | _, [] => []
  | k, b :: ags => if b.mut = true then g k :: homes g (k + 1) ags else homes g (k + 1) ags

theorem homes_congr {g g' : Nat → Nat × Nat} : ∀ {k k' : Nat} {ags : List Arg}, (∀ i, g (k + i) = g' (k' + i)) → homes g k ags = homes g' k' ags
  | k, k', [], _ => rfl
  | k, k', b :: ags, h => by
    unfold homes
    have h0 : g k = g' k' := h 0
    rw [h0, homes_congr (k := k + 1) (k' := k' + 1) (ags := ags) fun i => by
      have := h (1 + i)
      rw [Nat.add_assoc, Nat.add_assoc]
      exact this]

theorem argsRep_at : ∀ {ags : List Arg} {us : List Value} {ab : List (Nat × Nat)}, ArgsRep w S ags us ab → ∃ g : Nat → Nat × Nat, us.length = ags.length ∧ (∀ k b, ags[k]? = some b → ∃ u, us[k]? = some u ∧ ArgRep w S b u (if b.mut = true then [g k] else [])) ∧ homes g 0 ags = ab
  | [], us, ab, h => by
    unfold ArgsRep at h
    obtain ⟨rfl, rfl⟩ := h
    exact ⟨fun _ => (0, 0), rfl, fun k b hb => by simp at hb, rfl⟩
  | b :: ags, us, ab, h => by
    unfold ArgsRep at h
    obtain ⟨u, us', b1, b2, rfl, rfl, h1, h2⟩ := h
    obtain ⟨g, g1, g2, g3⟩ := argsRep_at h2
    have hb1 : b1 = if b.mut = true then [b1.headD (0, 0)] else [] := by
      cases b with
      | val x => exact h1.1
      | agg xs => exact h1.1
      | mrow sz es => obtain ⟨bb, c, rfl, _⟩ := h1; rfl
      | mvar cs => obtain ⟨bb, rfl, _⟩ := h1; rfl
    refine ⟨fun k => if k = 0 then b1.headD (0, 0) else g (k - 1), by simp [g1], fun k b' hb' => ?_, ?_⟩
    · cases k with
      | zero =>
        simp at hb'
        subst hb'
        refine ⟨u, rfl, ?_⟩
        simp only [if_true]
        rw [← hb1]
        exact h1
      | succ k => simpa using g2 k b' (by simpa using hb')
    · unfold homes
      have e : homes (fun k => if k = 0 then b1.headD (0, 0) else g (k - 1)) 1 ags = b2 := by
        rw [← g3]
        exact homes_congr fun i => by simp [Nat.add_comm 1 i]
      rw [Nat.zero_add, e]
      rw [hb1]
      cases b.mut <;> simp

theorem homes_mem {g : Nat → Nat × Nat} : ∀ {k : Nat} {ags : List Arg} {i : Nat} {b : Arg}, ags[i]? = some b → b.mut = true → g (k + i) ∈ homes g k ags
  | k, [], i, b, h, _ => by simp at h
  | k, c :: ags, 0, b, h, hm => by
    simp at h
    subst h
    unfold homes
    rw [if_pos hm]
    simp
  | k, c :: ags, i + 1, b, h, hm => by
    have := homes_mem (g := g) (k := k + 1) (i := i) (b := b) (ags := ags) (by simpa using h) hm
    rw [show k + (i + 1) = k + 1 + i by omega]
    unfold homes
    split
    · simp [this]
    · exact this

theorem homes_inj {g : Nat → Nat × Nat} : ∀ {k : Nat} {ags : List Arg} {i j : Nat} {b c : Arg}, ((homes g k ags).map (·.1)).Nodup → ags[i]? = some b → b.mut = true → ags[j]? = some c → c.mut = true → (g (k + i)).1 = (g (k + j)).1 → i = j
  | k, [], i, j, b, c, _, h, _, _, _, _ => by simp at h
  | k, x :: ags, i, j, b, c, hn, hi, hb, hj, hc, he => by
    unfold homes at hn
    have tail : ((homes g (k + 1) ags).map (·.1)).Nodup := by
      split at hn
      · rw [List.map_cons, List.nodup_cons] at hn; exact hn.2
      · exact hn
    have clash : ∀ {l : Nat} {c : Arg}, x.mut = true → ags[l]? = some c → c.mut = true → (g k).1 = (g (k + 1 + l)).1 → False := by
      intro l c hx hl hc he
      rw [if_pos hx, List.map_cons, List.nodup_cons] at hn
      exact hn.1 (he ▸ List.mem_map.2 ⟨_, homes_mem hl hc, rfl⟩)
    cases i with
    | zero =>
      cases j with
      | zero => rfl
      | succ j =>
        simp at hi
        subst hi
        exact (clash (l := j) hb (by simpa using hj) hc (by rw [show k + 1 + j = k + (j + 1) by omega]; exact he)).elim
    | succ i =>
      cases j with
      | zero =>
        simp at hj
        subst hj
        exact (clash (l := i) hc (by simpa using hi) hb (by rw [show k + 1 + i = k + (i + 1) by omega]; exact he.symm)).elim
      | succ j =>
        have := homes_inj (k := k + 1) (i := i) (j := j) tail (by simpa using hi) hb (by simpa using hj) hc (by rw [show k + 1 + i = k + (i + 1) by omega, show k + 1 + j = k + (j + 1) by omega]; exact he)
        omega

/-- When a function is entered. -/
theorem enter_rel {ags : List Arg} {us : List Value} {ab : List (Nat × Nat)} (hS : ∀ b, S b → b < w.heap.size) (h : ArgsRep w S ags us ab) (hn : (ab.map (·.1)).Nodup) (hlt : ∀ b ∈ ab.map (·.1), b < w.heap.size) (hfx : Fixed (ab.map (·.1)) w) (hN : ags.length ≤ N) :
    ∃ g, homes g 0 ags = ab ∧ Rel w S (ab.map (·.1)) g X N (St.enter ags) { tmps := us.toArray ++ Array.replicate (N - us.toArray.size) undef, defers := [] } w := by
  obtain ⟨g, g1, g2, g3⟩ := argsRep_at h
  refine ⟨g, g3, fun id => if base ≤ id.1 ∧ id.2 = 0 then (g (id.1 - base)).1 else 0, fun id => if base ≤ id.1 ∧ id.2 = 0 then (g (id.1 - base)).2 else 0, S, ?_, fun k => by simp⟩
  have hob : ∀ id o, (St.enter ags).ob id = some o → ∃ k b, id = (base + k, 0) ∧ ags[k]? = some b ∧ ((∃ sz es, b = .mrow sz es ∧ o = .row sz es) ∨ ∃ cs, b = .mvar cs ∧ o = .var (cs.map .t)) := by
    intro id o ho
    simp only [St.enter] at ho
    split at ho
    · rename_i hid
      have hide : id = (base + (id.1 - base), 0) := Prod.ext_iff.2 ⟨(Nat.add_sub_cancel' hid.1).symm, hid.2⟩
      cases hb : ags[id.1 - base]? with
      | none => rw [hb] at ho; cases ho
      | some b =>
        rw [hb] at ho
        refine ⟨id.1 - base, b, hide, hb, ?_⟩
        cases b with
        | mrow sz es => cases ho; exact .inl ⟨_, _, rfl, rfl⟩
        | mvar cs => cases ho; exact .inr ⟨_, rfl, rfl⟩
        | val _ => cases ho
        | agg _ => cases ho
    · cases ho
  have hsz : us.toArray.size = us.length := by simp
  refine ⟨by simp; omega, rfl, ⟨hfx, rfl, rfl, rfl, Nat.le_refl _, fun _ _ _ => rfl⟩, hS, fun _ hb => hb, fun _ hb => .inl hb, fun id o ho => ?_, fun id o ho => ?_, fun id id' h1 h2 he => ?_, fun t => ?_, fun t => by simp only [St.enter]; unfold AVrep; trivial⟩
  · obtain ⟨k, b, rfl, hb, hc⟩ := hob id o ho
    obtain ⟨u, hu, hr⟩ := g2 k b hb
    rcases hc with ⟨sz, es, rfl, rfl⟩ | ⟨cs, rfl, rfl⟩
    · obtain ⟨bb, c, e1, e2, e3, e4⟩ := hr
      simp [Arg.mut] at e1
      unfold ObRep
      simp only [Nat.le_add_right, true_and, if_true, Nat.add_sub_cancel_left, e1]
      exact ⟨e3, e4⟩
    · obtain ⟨bb, e1, e2, ⟨⟨arr, ty, e3, e4⟩, e5⟩, e6⟩ := hr
      simp [Arg.mut] at e1
      unfold ObRep
      simp only [Nat.le_add_right, true_and, if_true, Nat.add_sub_cancel_left, e1]
      exact ⟨⟨arr, ty, e3, (creps_cells e3 e4).1 e5⟩, e6⟩
  · obtain ⟨k, b, rfl, hb, hc⟩ := hob id o ho
    right
    simp only [Nat.le_add_right, true_and, if_true, Nat.add_sub_cancel_left]
    rw [← g3]
    refine List.mem_map.2 ⟨g k, ?_, rfl⟩
    have := homes_mem (g := g) (k := 0) hb (by rcases hc with ⟨_, _, rfl, _⟩ | ⟨_, rfl, _⟩ <;> rfl)
    simpa using this
  · obtain ⟨o1, h1⟩ := Option.ne_none_iff_exists'.1 h1
    obtain ⟨o2, h2⟩ := Option.ne_none_iff_exists'.1 h2
    obtain ⟨k1, b1, rfl, hb1, hc1⟩ := hob id o1 h1
    obtain ⟨k2, b2, rfl, hb2, hc2⟩ := hob id' o2 h2
    simp only [Nat.le_add_right, true_and, if_true, Nat.add_sub_cancel_left] at he
    have := homes_inj (g := g) (k := 0) (by rw [g3]; exact hn) hb1 (by rcases hc1 with ⟨_, _, rfl, _⟩ | ⟨_, rfl, _⟩ <;> rfl) hb2 (by rcases hc2 with ⟨_, _, rfl, _⟩ | ⟨_, rfl, _⟩ <;> rfl) (by simpa using he)
    rw [this]
  · simp only [St.enter]
    cases hb : ags[t]? with
    | none => unfold AVrep; trivial
    | some b =>
      obtain ⟨u, hu, hr⟩ := g2 t b hb
      have htu := (List.getElem?_eq_some_iff.1 hu).1
      have hget : (us.toArray ++ Array.replicate (N - us.toArray.size) undef).getD t undef = u := by
        rw [Array.getD_eq_getD_getElem?, Array.getElem?_append_left (by simpa using htu)]
        simp [hu]
      rw [hget]
      cases b with
      | val x => unfold AVrep; exact hr.2
      | agg xs =>
        obtain ⟨_, us', e1, e2⟩ := hr
        unfold AVrep
        refine ⟨us', e1, ?_⟩
        rw [AVreps_iff]
        obtain ⟨f1, f2⟩ := Treps_iff.1 e2
        refine ⟨by simp [f1], fun j v u hj hu => ?_⟩
        rw [List.getElem?_map] at hj
        cases hc : xs[j]? with
        | none => simp [hc] at hj
        | some x =>
          simp [hc] at hj
          subst hj
          unfold AVrep
          exact f2 j x u hc hu
      | mrow sz es =>
        obtain ⟨bb, c, e1, e2, e3, e4⟩ := hr
        simp [Arg.mut] at e1
        have hob1 : (St.enter ags).ob (base + t, 0) = some (.row sz es) := by simp [St.enter, hb]
        have := AVrep_row (w := w) (S := S) (m := fun id : Id => if base ≤ id.1 ∧ id.2 = 0 then (g (id.1 - base)).1 else 0) (cap := fun id : Id => if base ≤ id.1 ∧ id.2 = 0 then (g (id.1 - base)).2 else 0) (ob := (St.enter ags).ob) (id := (base + t, 0)) (sz := sz) (es := es) hob1 (by simp [e1]; exact e3.2.1) (by simp [e1]; exact e3.2.2.1)
        simp [e1] at this
        rw [e2]
        simpa [St.enter] using this
      | mvar cs =>
        obtain ⟨bb, e1, e2, e3, e4⟩ := hr
        simp [Arg.mut] at e1
        unfold AVrep
        refine ⟨_, e2, fun cs' hcs _ => by simp [e1], fun sz es hes => ?_⟩
        simp [hb, Ob.ext] at hes

/-! ### what the arguments' objects are when the function returns -/
def backOne (st : St) (k : Nat) : Option Arg → Prop
  | none => True
  | some (.mrow sz es) => st.ob (base + k, 0) = some (.row sz es)
  | some (.mvar cs) => ∃ avs, st.ob (base + k, 0) = some (.var avs) ∧ st.toTs avs = some cs
  | some _ => False

def backs (st : St) : Nat → List Arg → List (Option Arg) → Prop
  | _, [], [] => True
  | k, .val _ :: ags, os => backs st (k + 1) ags os
  | k, .agg _ :: ags, os => backs st (k + 1) ags os
  | k, .mrow _ _ :: ags, o :: os => backOne st k o ∧ backs st (k + 1) ags os
  | k, .mvar _ :: ags, o :: os => backOne st k o ∧ backs st (k + 1) ags os
  | _, _, _ => False

def outIds : Nat → List Arg → List (Option Arg) → List Id
  | k, .val _ :: ags, os => outIds (k + 1) ags os
  | k, .agg _ :: ags, os => outIds (k + 1) ags os
  | k, .mrow _ _ :: ags, some _ :: os => (base + k, 0) :: outIds (k + 1) ags os
  | k, .mvar _ :: ags, some _ :: os => (base + k, 0) :: outIds (k + 1) ags os
  | k, .mrow _ _ :: ags, none :: os => outIds (k + 1) ags os
  | k, .mvar _ :: ags, none :: os => outIds (k + 1) ags os
  | _, _, _ => []

def outOne (st : St) (k : Nat) : Option Arg → List AV
  | some (.mvar _) => match st.ob (base + k, 0) with
    | some (.var avs) => avs
    | _ => []
  | _ => []

def outVals (st : St) : Nat → List Arg → List (Option Arg) → List AV
  | k, .val _ :: ags, os => outVals st (k + 1) ags os
  | k, .agg _ :: ags, os => outVals st (k + 1) ags os
  | k, .mrow _ _ :: ags, o :: os => outOne st k o ++ outVals st (k + 1) ags os
  | k, .mvar _ :: ags, o :: os => outOne st k o ++ outVals st (k + 1) ags os
  | _, _, _ => []

theorem backOne_ids {k : Nat} {x : Option Arg} (h : backOne st k x) : (x ≠ none → st.ob (base + k, 0) ≠ none) ∧ ∀ y ∈ outOne st k x, (st.toT y).isSome := by
  cases x with
  | none => simp [outOne]
  | some b =>
    cases b with
    | mrow sz es =>
      unfold backOne at h
      simp [outOne, h]
    | mvar cs =>
      obtain ⟨avs, h1, h2⟩ := h
      simp only [outOne, h1]
      exact ⟨by simp, (toTs_some h2).2.1⟩
    | val _ => exact h.elim
    | agg _ => exact h.elim

theorem back_ids : ∀ {k : Nat} {ags : List Arg} {outs : List (Option Arg)}, backs st k ags outs → (∀ id ∈ outIds k ags outs, st.ob id ≠ none) ∧ ∀ x ∈ outVals st k ags outs, (st.toT x).isSome
  | k, [], [], _ => by simp [outIds, outVals]
  | k, [], _ :: _, h => by simp [backs] at h
  | k, .val _ :: ags, os, h => by
    simp only [backs] at h
    simpa only [outIds, outVals] using back_ids h
  | k, .agg _ :: ags, os, h => by
    simp only [backs] at h
    simpa only [outIds, outVals] using back_ids h
  | k, .mrow _ _ :: ags, [], h => by simp [backs] at h
  | k, .mvar _ :: ags, [], h => by simp [backs] at h
  | k, .mrow _ _ :: ags, x :: os, h => by
    simp only [backs] at h
    obtain ⟨a1, a2⟩ := backOne_ids h.1
    obtain ⟨b1, b2⟩ := back_ids h.2
    simp only [outVals, List.mem_append]
    refine ⟨fun id hid => ?_, fun y hy => hy.elim (a2 y) (b2 y)⟩
    cases x with
    | none => exact b1 id (by simpa only [outIds] using hid)
    | some b =>
      simp only [outIds, List.mem_cons] at hid
      rcases hid with rfl | hid
      · exact a1 (by simp)
      · exact b1 id hid
  | k, .mvar _ :: ags, x :: os, h => by
    simp only [backs] at h
    obtain ⟨a1, a2⟩ := backOne_ids h.1
    obtain ⟨b1, b2⟩ := back_ids h.2
    simp only [outVals, List.mem_append]
    refine ⟨fun id hid => ?_, fun y hy => hy.elim (a2 y) (b2 y)⟩
    cases x with
    | none => exact b1 id (by simpa only [outIds] using hid)
    | some b =>
      simp only [outIds, List.mem_cons] at hid
      rcases hid with rfl | hid
      · exact a1 (by simp)
      · exact b1 id hid

theorem backOne_rep (h1 : RelAt w0 S0 own X N m cap S1 st1 a w) (hz : Froze st st1) {g : Nat × Nat} {k : Nat} (hg : m (base + k, 0) = g.1 ∧ cap (base + k, 0) = g.2) {x : Option Arg} (h : backOne st k x) (hs : x ≠ none → st1.ob (base + k, 0) = st.ob (base + k, 0))
    (hv : ∀ id, (∃ sz i n, AV.row id sz i n ∈ outOne st k x) ∨ AV.mp id ∈ outOne st k x → S1 (m id)) : OutRep w S1 g x := by
  cases x with
  | none => trivial
  | some b =>
    cases b with
    | mrow sz es =>
      unfold backOne at h
      have ho1 : st1.ob (base + k, 0) = some (.row sz es) := by rw [hs (by simp), h]
      obtain ⟨k1, k2⟩ := h1.obs _ _ ho1
      rw [hg.1] at k1 k2
      rw [hg.2] at k1
      exact ⟨k1, k2⟩
    | mvar cs =>
      obtain ⟨avs, h2, h3⟩ := h
      have ho1 : st1.ob (base + k, 0) = some (.var avs) := by rw [hs (by simp), h2]
      obtain ⟨⟨arr, ty, k1, k2⟩, k3⟩ := h1.obs _ _ ho1
      rw [hg.1] at k1 k3
      simp only [outOne, h2] at hv
      exact ⟨treps_creps k1 (toTs_rep h1 hz h3 k2 hv), k3⟩
    | val _ => exact h.elim
    | agg _ => exact h.elim

theorem back_rep (h1 : RelAt w0 S0 own X N m cap S1 st1 a w) (hz : Froze st st1) {g : Nat → Nat × Nat} (hg : ∀ k, m (base + k, 0) = (g k).1 ∧ cap (base + k, 0) = (g k).2) : ∀ {k : Nat} {ags : List Arg} {outs : List (Option Arg)}, backs st k ags outs → (∀ id ∈ outIds k ags outs, st1.ob id = st.ob id) →
    (∀ id, (∃ sz i n, AV.row id sz i n ∈ outVals st k ags outs) ∨ AV.mp id ∈ outVals st k ags outs → S1 (m id)) → OutReps w S1 (homes g k ags) outs ∧ liveOuts (homes g k ags) outs = (outIds k ags outs).map m
  | k, [], [], _, _, _ => by simp [homes, OutReps, liveOuts, outIds]
  | k, [], _ :: _, h, _, _ => by simp [backs] at h
  | k, .val _ :: ags, os, h, hs, hv => by
    simp only [backs] at h
    simp only [outIds, outVals] at hs hv ⊢
    have := back_rep h1 hz hg h hs hv
    unfold homes
    simpa [Arg.mut] using this
  | k, .agg _ :: ags, os, h, hs, hv => by
    simp only [backs] at h
    simp only [outIds, outVals] at hs hv ⊢
    have := back_rep h1 hz hg h hs hv
    unfold homes
    simpa [Arg.mut] using this
  | k, .mrow _ _ :: ags, [], h, _, _ => by simp [backs] at h
  | k, .mvar _ :: ags, [], h, _, _ => by simp [backs] at h
  | k, .mrow sz es :: ags, x :: os, h, hs, hv => by
    simp only [backs] at h
    simp only [outVals, List.mem_append] at hv
    have hh : homes g k (.mrow sz es :: ags) = g k :: homes g (k + 1) ags := by rw [homes]; simp [Arg.mut]
    rw [hh]
    have r1 := backOne_rep h1 hz (hg k) h.1 (fun hne => hs _ (by cases x with | none => exact absurd rfl hne | some b => simp [outIds])) (fun id hm => hv id (by rcases hm with ⟨sz, i, n, hm⟩ | hm; exact .inl ⟨sz, i, n, .inl hm⟩; exact .inr (.inl hm)))
    obtain ⟨r2, r3⟩ := back_rep h1 hz hg h.2 (fun id hid => hs id (by cases x with | none => simpa only [outIds] using hid | some b => simp [outIds, hid])) (fun id hm => hv id (by rcases hm with ⟨sz, i, n, hm⟩ | hm; exact .inl ⟨sz, i, n, .inr hm⟩; exact .inr (.inr hm)))
    unfold OutReps
    refine ⟨⟨r1, r2⟩, ?_⟩
    cases x with
    | none => simpa only [liveOuts, outIds] using r3
    | some b => simp only [liveOuts, outIds, List.map_cons, r3, (hg k).1]
  | k, .mvar cs :: ags, x :: os, h, hs, hv => by
    simp only [backs] at h
    simp only [outVals, List.mem_append] at hv
    have hh : homes g k (.mvar cs :: ags) = g k :: homes g (k + 1) ags := by rw [homes]; simp [Arg.mut]
    rw [hh]
    have r1 := backOne_rep h1 hz (hg k) h.1 (fun hne => hs _ (by cases x with | none => exact absurd rfl hne | some b => simp [outIds])) (fun id hm => hv id (by rcases hm with ⟨sz, i, n, hm⟩ | hm; exact .inl ⟨sz, i, n, .inl hm⟩; exact .inr (.inl hm)))
    obtain ⟨r2, r3⟩ := back_rep h1 hz hg h.2 (fun id hid => hs id (by cases x with | none => simpa only [outIds] using hid | some b => simp [outIds, hid])) (fun id hm => hv id (by rcases hm with ⟨sz, i, n, hm⟩ | hm; exact .inl ⟨sz, i, n, .inr hm⟩; exact .inr (.inr hm)))
    unfold OutReps
    refine ⟨⟨r1, r2⟩, ?_⟩
    cases x with
    | none => simpa only [liveOuts, outIds] using r3
    | some b => simp only [liveOuts, outIds, List.map_cons, r3, (hg k).1]

/-- A function's end: its result, its arguments' objects. -/
def Back (P : Program) (rs : List ResultVar) (ags : List Arg) (res : RV) (outs : List (Option Arg)) (st : St) : Prop :=
  ∃ v, resultA P st rs = some v ∧ st.toRV v = some res ∧ backs st 0 ags outs ∧ (ownIds st v ++ outIds 0 ags outs).Nodup ∧ ∀ id ∈ ownIds st v ++ outIds 0 ags outs, noRow id (frzVals st v ++ outVals st 0 ags outs) = true

/-- Code comes to its end. -/
def Fin (K : St → Prop) : Ex → St → Prop
  | .exit _, _ => False
  | _, s => K s
@[simp] theorem Fin_normal (K : St → Prop) (s : St) : Fin K .normal s = K s := rfl
@[simp] theorem Fin_ret (K : St → Prop) (s : St) : Fin K .ret s = K s := rfl
@[simp] theorem Fin_exit (K : St → Prop) (s : St) (i : Nat) : Fin K (.exit i) s = False := rfl

theorem back_post {fn : Func} {ags : List Arg} {res : RV} {outs : List (Option Arg)} {g : Nat → Nat × Nat} (hr : Rel w0 S0 ((homes g 0 ags).map (·.1)) g X N st a w) (hb : Back P fn.results.toList ags res outs st) : bodyPost P fn (Post w0 S0 (homes g 0 ags) res outs) .ret a w := by
  obtain ⟨v, b1, b2, b3, b4, b5⟩ := hb
  obtain ⟨m, cap, S, hr, hg⟩ := hr
  obtain ⟨u, u1, u2⟩ := result_run hr b1
  obtain ⟨i1, i2⟩ := rv_ids v b2
  obtain ⟨j1, j2⟩ := back_ids b3
  obtain ⟨S1, r1, q1, z1, v1⟩ := freeze_all hr (frzVals st v ++ outVals st 0 ags outs) (Froze.refl st) (fun x hx => by
    rcases List.mem_append.1 hx with hx | hx
    · exact i2 x hx
    · exact j2 x hx)
  have hsame : ∀ id ∈ ownIds st v ++ outIds 0 ags outs, (st.eff (st.frzEffs (frzVals st v ++ outVals st 0 ags outs))).ob id = st.ob id := fun id hid => frz_other (b5 id hid) st
  have u2' : AVrep w S1 m cap (st.eff (st.frzEffs (frzVals st v ++ outVals st 0 ags outs))).ob v u := by
    refine AVrep.keep (p := fun _ => False) (Same.refl _ _) q1 ⟨fun i _ => ?_, fun i _ => ⟨rfl, rfl⟩⟩ _ _ (AV.free_false _) u2
    exact z1.leads i
  obtain ⟨c1, c2⟩ := rv_rep r1 z1 v b2 u2' (fun id hm => v1 id (nm_sub (fun x hx => List.mem_append_left _ hx) hm)) (fun id hid => hsame id (List.mem_append_left _ hid))
  obtain ⟨d1, d2⟩ := back_rep r1 z1 hg b3 (fun id hid => hsame id (List.mem_append_right _ hid)) (fun id hm => v1 id (nm_sub (fun x hx => List.mem_append_right _ hx) hm))
  have hlive : ∀ id ∈ ownIds st v ++ outIds 0 ags outs, st.ob id ≠ none := fun id hid => by
    rcases List.mem_append.1 hid with hid | hid
    · exact i1 id hid
    · exact j1 id hid
  refine ⟨hr.defers, u, u1, u, S1, (ownIds st v).map m, rfl, r1.after, r1.base, fun b hb => ⟨r1.stab b hb, r1.fresh b hb⟩, c1, ?_, fun b hb => ?_, d1⟩
  · rw [d2, ← List.map_append]
    unfold List.Nodup
    rw [List.pairwise_map]
    exact List.Pairwise.imp_of_mem (fun {x y} hx hy hne he => hne (hr.inj x y (hlive x hx) (hlive y hy) he)) b4
  · obtain ⟨id, hid, rfl⟩ := List.mem_map.1 hb
    obtain ⟨o', ho'⟩ := Option.ne_none_iff_exists'.1 (i1 id hid)
    exact ⟨c2 id hid, (hr.obs id o' ho').lt, hr.mine id o' ho'⟩

/-- A contract, by the calculus. -/
theorem callsF_of_wp {f : FuncId} {fn : Func} {c : Code} (lo : Nat → List Nat) (hm : P.follows .mixedOrders = true) (hf : P.funcs[f]? = some fn) (hb : fn.body = some c) (hname : (fn.name == "runtime.NumGoroutine") = false) (hok : (decide (fn.ntmps ≤ base) && okCode fn.ntmps lo c) = true)
    {ags : List Arg} {res : RV} {outs : List (Option Arg)} (hlen : ags.length ≤ fn.ntmps) (hlike : Arg.like ags outs) (hwp : wpC P lo c (Fin (Back P fn.results.toList ags res outs)) (St.enter ags)) : CallsF P f ags res outs := by
  simp only [Bool.and_eq_true, decide_eq_true_eq] at hok
  refine ⟨⟨fn, hf, hname, by rw [hb]; rfl⟩, hlike, fun w S us usF ab hS hfl harg hn hlt hfx => ?_⟩
  obtain rfl := flatU_nones _ _ _ hfl
  obtain ⟨g, rfl, hr⟩ := enter_rel (X := fun _ => undef) hS harg hn hlt hfx hlen
  refine calls_of_wp hf hb (wp_mono (code_sound hm hok.1 lo c hok.2 hr hwp) fun e a' w' he => ?_)
  cases e with
  | normal =>
    obtain ⟨st, h1, h2⟩ := he
    exact back_post h1 h2
  | ret =>
    obtain ⟨st, h1, h2⟩ := he
    exact back_post h1 h2
  | exit i =>
    obtain ⟨st, h1, h2⟩ := he
    exact h2.elim
  | goto l => exact he.elim
  | panic c => exact he.elim
  | outgrown => exact he.elim

end Cal

/- A calculus of our own, thirty-first part: code laid out for reckoning: guards resolved, positions left out; its rules. No program is named here. -/
set_option linter.unusedSimpArgs false
set_option linter.unusedVariables false
namespace Cal
open Go Go.RowKit

structure Op1 where
  dst : Option Nat
  op : Op
  g : Option (Nat × Bool)

inductive Code1 where
  | skip
  | region (mk : List Nat) (dr : Bool) (lo : List Nat) (ops : List Op1)
  | seq (a b : Code1)
  | cond (c : Operand) (x y : Code1)
  | block (id : Nat) (c : Code1)
  | loop (c : Code1)
  | exit (id : Nat)
  | ret

def comp1 (ops : Array Oper) (o : Oper) : Option Op1 :=
  match o.guard with
  | none => some ⟨o.dst, o.op, none⟩
  | some (j, want) => match (ops[j]?).bind (·.dst) with
    | some t => some ⟨o.dst, o.op, some (t, want)⟩
    | none => none

def comps (ops : Array Oper) : List Oper → Option (List Op1)
  | [] => some []
  | o :: l => match comp1 ops o, comps ops l with
    | some x, some xs => some (x :: xs)
    | _, _ => none

def two {α β γ : Type} (f : α → β → γ) (x : Option α) (y : Option β) : Option γ := match x, y with
  | some a, some b => some (f a b)
  | _, _ => none

def comp (lo : Nat → List Nat) : Code → Option Code1
  | .skip => some .skip
  | .region id ops dr => (comps ops ops.toList).map (.region (makes ops.toList) dr (lo id))
  | .seq a b => two .seq (comp lo a) (comp lo b)
  | .cond c x y => two (.cond c) (comp lo x) (comp lo y)
  | .block id c => (comp lo c).map (.block id)
  | .loop c => (comp lo c).map .loop
  | .exit id => some (.exit id)
  | .ret => some .ret
  | _ => none

def muteB (dr : Bool) (lo : List Nat) (d : Option Nat) : Bool := dr && !(lo.contains (d.getD 0))

def step1 (P : Program) (dr : Bool) (lo : List Nat) (d : Option Nat) (op : Op) (st : St) (K : St → Prop) : Prop :=
  match op with
  | .call { callee := .value (.func f), args := args, .. } => CallK P f (muteB dr lo d) st (args.toList.map st.ev) d K
  | op => andT (muted (noisy op && muteB dr lo d) (d.getD 0) (evOp P (d.getD 0) st op)) fun r => K (st.eff' d r.1 r.2)

def wantA (want : Bool) : AV → Option Bool
  | .t (.v (.bool b)) => some (b == want)
  | .tup [] => some false
  | _ => none

def guard1 (P : Program) (dr : Bool) (lo : List Nat) (d : Option Nat) (op : Op) (want : Bool) (v : AV) (st : St) (K : St → Prop) : Prop :=
  andT (wantA want v) fun b => onB b (step1 P dr lo d op st K) (K (st.put d (.tup [])))

def stepG (P : Program) (dr : Bool) (lo : List Nat) (o : Op1) (st : St) (K : St → Prop) : Prop :=
  match o.g with
  | none => step1 P dr lo o.dst o.op st K
  | some (t, want) => guard1 P dr lo o.dst o.op want (st.tm t) st K

def wpM (P : Program) (dr : Bool) (lo : List Nat) : List Op1 → St → (St → Prop) → Prop
  | [], st, K => K st
  | o :: l, st, K => stepG P dr lo o st fun st' => wpM P dr lo l st' K

def wp1 (P : Program) : Code1 → (Ex → St → Prop) → St → Prop
  | .skip, Q, st => Q .normal st
  | .region mk dr lo ops, Q, st => wpM P dr lo ops (st.kill mk) (Q .normal)
  | .seq a b, Q, st => wp1 P a (thenQ (wp1 P b Q) Q) st
  | .cond c x y, Q, st => andT (boolA (st.ev c)) fun b => onB b (wp1 P x Q st) (wp1 P y Q st)
  | .block id c, Q, st => wp1 P c (inBlk id Q) st
  | .loop c, Q, st => ∃ (I : St → Prop) (μ : St → Nat), I st ∧ ∀ st, I st → wp1 P c (thenQ (fun st' => I st' ∧ μ st' < μ st) Q) st
  | .exit id, Q, st => Q (.exit id) st
  | .ret, Q, st => Q .ret st

theorem CallK_mono {P : Program} {f : FuncId} {mute : Bool} {st : St} {vs : List AV} {d : Option Nat} {K K' : St → Prop} (h : CallK P f mute st vs d K) (hk : ∀ s, K s → K' s) : CallK P f mute st vs d K' := by
  obtain ⟨sh, vsF, ags, res, outs, keep, h0, h1, h2, h3, h4, h5, h6⟩ := h
  exact ⟨sh, vsF, ags, res, outs, keep, h0, h1, h2, h3, h4, h5, hk _ h6⟩
theorem step1_mono {P : Program} {dr : Bool} {lo : List Nat} {d : Option Nat} {op : Op} {st : St} {K K' : St → Prop} (h : step1 P dr lo d op st K) (hk : ∀ s, K s → K' s) : step1 P dr lo d op st K' := by
  unfold step1 at *
  split at h
  · exact CallK_mono h hk
  · exact andT_mono h fun r hr => hk _ hr
theorem stepG_mono {P : Program} {dr : Bool} {lo : List Nat} {o : Op1} {st : St} {K K' : St → Prop} (h : stepG P dr lo o st K) (hk : ∀ s, K s → K' s) : stepG P dr lo o st K' := by
  unfold stepG at *
  split at h
  · exact step1_mono h hk
  · exact andT_mono h fun b hb => onB_mono hb (fun h1 => step1_mono h1 hk) (hk _)
theorem thenQ_mono {K K' : St → Prop} {Q Q' : Ex → St → Prop} (h1 : ∀ s, K s → K' s) (h2 : ∀ e s, Q e s → Q' e s) : ∀ e s, thenQ K Q e s → thenQ K' Q' e s := fun e s h => by
  cases e
  · exact h1 s h
  · exact h2 _ s h
  · exact h2 _ s h
theorem step1_op {P : Program} {ops : Array Oper} {dr : Bool} {lo : List Nat} {o : Oper} {st : St} {K : St → Prop} (h : step1 P dr lo o.dst o.op st K) : wpOp P ⟨ops, dr, lo⟩ o st K := by
  unfold step1 at h
  unfold wpOp
  exact h
theorem wpM_wpL {P : Program} {ops : Array Oper} {dr : Bool} {lo : List Nat} : ∀ {os : List Oper} {os1 : List Op1} {st : St} {K : St → Prop}, comps ops os = some os1 → wpM P dr lo os1 st K → wpL P ⟨ops, dr, lo⟩ os st K
  | [], os1, st, K, hc, h => by
    unfold comps at hc
    cases hc
    rw [wpL]
    exact h
  | o :: os, os1, st, K, hc, h => by
    unfold comps at hc
    split at hc
    · rename_i x xs hx hxs
      cases hc
      unfold wpM at h
      rw [wpL]
      unfold comp1 at hx
      unfold stepG at h
      split at hx
      · rename_i hg
        cases hx
        rw [hg]
        exact ⟨true, rfl, wpOp_mono (step1_op h) fun s hs => wpM_wpL hxs hs⟩
      · rename_i j want hg
        split at hx
        · rename_i t ht
          cases hx
          rw [hg]
          obtain ⟨b, hb, h⟩ := h
          refine ⟨b, ?_, ?_⟩
          · simp only [guardA, ht, Option.map_some]
            unfold wantA at hb
            split at hb
            · rename_i b' hb'
              rw [hb']
              exact hb
            · rename_i hb'
              rw [hb']
              exact hb
            · cases hb
          · exact onB_mono h (fun h1 => wpOp_mono (step1_op h1) fun s hs => wpM_wpL hxs hs) (fun h1 => wpM_wpL hxs h1)
        · cases hx
    · cases hc

theorem two_inv {α β γ : Type} {f : α → β → γ} {x : Option α} {y : Option β} {z : γ} (h : two f x y = some z) : ∃ a b, x = some a ∧ y = some b ∧ z = f a b := by
  unfold two at h
  split at h
  · cases h
    exact ⟨_, _, rfl, rfl, rfl⟩
  · cases h

theorem wp1_wpC {P : Program} {lo : Nat → List Nat} : ∀ (c : Code) {k : Code1} {Q : Ex → St → Prop} {st : St}, comp lo c = some k → wp1 P k Q st → wpC P lo c Q st
  | .skip, k, Q, st, hc, h => by unfold comp at hc; cases hc; rw [wpC_skip]; exact h
  | .region id ops dr, k, Q, st, hc, h => by
    unfold comp at hc
    cases ho : comps ops ops.toList with
    | none => simp [ho] at hc
    | some os1 =>
      simp only [ho, Option.map_some, Option.some.injEq] at hc
      subst hc
      rw [wpC_region]
      exact wpM_wpL ho h
  | .seq a b, k, Q, st, hc, h => by
    unfold comp at hc
    obtain ⟨x, y, hx, hy, rfl⟩ := two_inv hc
    refine wpC_seq fun K hK => wpC_mono a (wp1_wpC a hx h) (thenQ_mono (fun s hs => hK s (wp1_wpC b hy hs)) fun _ _ h => h)
  | .cond c x y, k, Q, st, hc, h => by
    unfold comp at hc
    obtain ⟨k1, k2, hx, hy, rfl⟩ := two_inv hc
    rw [wpC]
    exact andT_mono h fun b hb => onB_mono hb (fun h1 => wp1_wpC x hx h1) (fun h1 => wp1_wpC y hy h1)
  | .block id c, k, Q, st, hc, h => by
    unfold comp at hc
    cases ho : comp lo c with
    | none => simp [ho] at hc
    | some k1 =>
      simp only [ho, Option.map_some, Option.some.injEq] at hc
      subst hc
      exact wpC_block (wp1_wpC c ho h)
  | .loop c, k, Q, st, hc, h => by
    unfold comp at hc
    cases ho : comp lo c with
    | none => simp [ho] at hc
    | some k1 =>
      simp only [ho, Option.map_some, Option.some.injEq] at hc
      subst hc
      obtain ⟨I, μ, h0, h1⟩ := h
      refine wpC_loop I μ h0 fun s hs K hK => wpC_mono c (wp1_wpC c ho (h1 s hs)) (thenQ_mono (fun s' hs' => hK s' hs'.1 hs'.2) fun _ _ h => h)
  | .exit id, k, Q, st, hc, h => by unfold comp at hc; cases hc; rw [wpC_exit]; exact h
  | .ret, k, Q, st, hc, h => by unfold comp at hc; cases hc; rw [wpC_ret]; exact h
  | .scope c, _, _, _, hc, _ => by unfold comp at hc; cases hc
  | .rangeFunc .., _, _, _, hc, _ => by unfold comp at hc; cases hc
  | .label _, _, _, _, hc, _ => by unfold comp at hc; cases hc
  | .goto _, _, _, _, hc, _ => by unfold comp at hc; cases hc
  | .refuse _, _, _, _, hc, _ => by unfold comp at hc; cases hc

/-- A contract, by the calculus, of code laid out. -/
theorem callsF_of_wp1 {P : Program} {f : FuncId} {fn : Func} {c : Code} {k : Code1} (lo : Nat → List Nat) (hm : P.follows .mixedOrders = true) (hf : P.funcs[f]? = some fn) (hb : fn.body = some c) (hname : (fn.name == "runtime.NumGoroutine") = false) (hok : (decide (fn.ntmps ≤ base) && okCode fn.ntmps lo c) = true) (hc : comp lo c = some k) {rs : List ResultVar} (hrs : fn.results.toList = rs)
    {ags : List Arg} {res : RV} {outs : List (Option Arg)} (hlen : ags.length ≤ fn.ntmps) (hlike : Arg.like ags outs) (hwp : wp1 P k (Fin (Back P rs ags res outs)) (St.enter ags)) : CallsF P f ags res outs := by
  subst hrs
  exact callsF_of_wp lo hm hf hb hname hok hlen hlike (wp1_wpC c hc hwp)

/-! ### rules -/
theorem wp1_seq {P : Program} {a b : Code1} {Q : Ex → St → Prop} {st : St} (h : ∀ K : St → Prop, (∀ s, wp1 P b Q s → K s) → wp1 P a (thenQ K Q) st) : wp1 P (.seq a b) Q st := by
  show wp1 P a (thenQ (wp1 P b Q) Q) st
  exact h _ fun _ h => h
theorem wp1_block {P : Program} {id : Nat} {c : Code1} {Q : Ex → St → Prop} {st : St} (h : wp1 P c (inBlk id Q) st) : wp1 P (.block id c) Q st := h
theorem M_cons {P : Program} {dr : Bool} {lo : List Nat} {o : Op1} {l : List Op1} {st : St} {K : St → Prop} (h : ∀ K' : St → Prop, (∀ s, wpM P dr lo l s K → K' s) → stepG P dr lo o st K') : wpM P dr lo (o :: l) st K := by
  show stepG P dr lo o st fun st' => wpM P dr lo l st' K
  exact h _ fun _ h => h
theorem wp1_region {P : Program} {mk : List Nat} {dr : Bool} {lo : List Nat} {ops : List Op1} {Q : Ex → St → Prop} {st : St} (h : wpM P dr lo ops (st.kill mk) (Q .normal)) : wp1 P (.region mk dr lo ops) Q st := h
@[simp] theorem wp1_skip (P : Program) (Q : Ex → St → Prop) (st : St) : wp1 P .skip Q st = Q .normal st := rfl
@[simp] theorem wp1_exit (P : Program) (id : Nat) (Q : Ex → St → Prop) (st : St) : wp1 P (.exit id) Q st = Q (.exit id) st := rfl
@[simp] theorem wp1_ret (P : Program) (Q : Ex → St → Prop) (st : St) : wp1 P .ret Q st = Q .ret st := rfl
@[simp] theorem wpM_nil (P : Program) (dr : Bool) (lo : List Nat) (st : St) (K : St → Prop) : wpM P dr lo [] st K = K st := rfl
/-- A branch, ags data. -/
def condK (g : Option Bool) (X Y : St → Prop) (st : St) : Prop := andT g fun b => onB b (X st) (Y st)
theorem wp1_cond {P : Program} {c : Operand} {x y : Code1} {Q : Ex → St → Prop} {st : St} (h : ∀ X Y : St → Prop, (∀ s, wp1 P x Q s → X s) → (∀ s, wp1 P y Q s → Y s) → condK (boolA (st.ev c)) X Y st) : wp1 P (.cond c x y) Q st := by
  exact h _ _ (fun _ h => h) (fun _ h => h)
@[simp] theorem condK_true (X Y : St → Prop) (st : St) : condK (some true) X Y st = X st := by simp [condK]
@[simp] theorem condK_false (X Y : St → Prop) (st : St) : condK (some false) X Y st = Y st := by simp [condK]
theorem condK_of {b : Bool} {X Y : St → Prop} {st : St} (h1 : b = true → X st) (h2 : b = false → Y st) : condK (some b) X Y st := by
  cases b
  · simpa using h2 rfl
  · simpa using h1 rfl
/-- An outcome, ags data. -/
def outT (x : Option (AV × Eff)) (d : Option Nat) (st : St) (K : St → Prop) : Prop := andT x fun r => K ((st.eff r.2).put d r.1)
@[simp] theorem outT_some (r : AV × Eff) (d : Option Nat) (st : St) (K : St → Prop) : outT (some r) d st K = K ((st.eff r.2).put d r.1) := by simp [outT]
@[simp] theorem outT_none (d : Option Nat) (st : St) (K : St → Prop) : outT none d st K = False := by simp [outT]
def callT (P : Program) (f : FuncId) (mute : Bool) (st : St) (vs : List AV) (d : Option Nat) (K : St → Prop) : Prop := CallK P f mute st vs d K
@[simp] theorem stepG_none (P : Program) (dr : Bool) (lo : List Nat) (d : Option Nat) (op : Op) (st : St) (K : St → Prop) : stepG P dr lo ⟨d, op, none⟩ st K = step1 P dr lo d op st K := rfl
@[simp] theorem stepG_some (P : Program) (dr : Bool) (lo : List Nat) (d : Option Nat) (op : Op) (t : Nat) (want : Bool) (st : St) (K : St → Prop) : stepG P dr lo ⟨d, op, some (t, want)⟩ st K = guard1 P dr lo d op want (st.tm t) st K := rfl
@[simp] theorem guard1_tt (P : Program) (dr : Bool) (lo : List Nat) (d : Option Nat) (op : Op) (st : St) (K : St → Prop) : guard1 P dr lo d op true (.t (.v (.bool true))) st K = step1 P dr lo d op st K := by simp [guard1, wantA]
@[simp] theorem guard1_ff (P : Program) (dr : Bool) (lo : List Nat) (d : Option Nat) (op : Op) (st : St) (K : St → Prop) : guard1 P dr lo d op false (.t (.v (.bool false))) st K = step1 P dr lo d op st K := by simp [guard1, wantA]
@[simp] theorem guard1_tf (P : Program) (dr : Bool) (lo : List Nat) (d : Option Nat) (op : Op) (st : St) (K : St → Prop) : guard1 P dr lo d op true (.t (.v (.bool false))) st K = K (st.put d (.tup [])) := by simp [guard1, wantA]
@[simp] theorem guard1_ft (P : Program) (dr : Bool) (lo : List Nat) (d : Option Nat) (op : Op) (st : St) (K : St → Prop) : guard1 P dr lo d op false (.t (.v (.bool true))) st K = K (st.put d (.tup [])) := by simp [guard1, wantA]
@[simp] theorem guard1_no (P : Program) (dr : Bool) (lo : List Nat) (d : Option Nat) (op : Op) (want : Bool) (st : St) (K : St → Prop) : guard1 P dr lo d op want (.tup []) st K = K (st.put d (.tup [])) := by simp [guard1, wantA]
section
variable (P : Program) (dr : Bool) (lo : List Nat) (d : Option Nat) (st : St) (K : St → Prop)
@[simp] theorem step1_move (x : Operand) : step1 P dr lo d (.move x) st K = K (st.put d (st.ev x)) := by simp [step1, evOp, St.eff', noisy, muted]
@[simp] theorem step1_assign (x : Operand) : step1 P dr lo d (.assign x) st K = K (st.put d (st.ev x)) := by simp [step1, evOp, St.eff', noisy, muted]
@[simp] theorem step1_pick (a b c : Operand) : step1 P dr lo d (.pick a b c) st K = outT (pickA (st.ev a) (st.ev b) (st.ev c)) d st K := rfl
@[simp] theorem step1_alloc (t : TypeId) : step1 P dr lo d (.alloc t) st K = outT (evOp P (d.getD 0) st (.alloc t)) d st K := rfl
@[simp] theorem step1_box (t : TypeId) (x : Operand) : step1 P dr lo d (.box t x) st K = outT (evOp P (d.getD 0) st (.box t x)) d st K := rfl
@[simp] theorem step1_build (t : TypeId) (ps : Array (Nat × Operand)) : step1 P dr lo d (.build t ps) st K = outT (evOp P (d.getD 0) st (.build t ps)) d st K := rfl
@[simp] theorem step1_buildSlice (t : TypeId) (n : Nat) (ps : Array (Nat × Operand)) : step1 P dr lo d (.buildSlice t n ps) st K = outT (muted (muteB dr lo d) (d.getD 0) (evOp P (d.getD 0) st (.buildSlice t n ps))) d st K := rfl
@[simp] theorem step1_makeSlice (t : TypeId) (x y : Operand) : step1 P dr lo d (.makeSlice t x y) st K = outT (evOp P (d.getD 0) st (.makeSlice t x y)) d st K := rfl
@[simp] theorem step1_load (t : TypeId) (x : Operand) : step1 P dr lo d (.load t x) st K = outT (evOp P (d.getD 0) st (.load t x)) d st K := rfl
@[simp] theorem step1_store (t : TypeId) (x y : Operand) : step1 P dr lo d (.store t x y) st K = outT (evOp P (d.getD 0) st (.store t x y)) d st K := rfl
@[simp] theorem step1_nilCheck (x : Operand) : step1 P dr lo d (.nilCheck x) st K = outT (evOp P (d.getD 0) st (.nilCheck x)) d st K := rfl
@[simp] theorem step1_binOp (o : BinOp) (t : TypeId) (x y : Operand) (t2 : TypeId) : step1 P dr lo d (.binOp o t x y t2) st K = outT (evOp P (d.getD 0) st (.binOp o t x y t2)) d st K := rfl
@[simp] theorem step1_unOp (o : UnOp) (t : TypeId) (x : Operand) : step1 P dr lo d (.unOp o t x) st K = outT (evOp P (d.getD 0) st (.unOp o t x)) d st K := rfl
@[simp] theorem step1_convert (t t2 : TypeId) (x : Operand) : step1 P dr lo d (.convert t t2 x) st K = outT (evOp P (d.getD 0) st (.convert t t2 x)) d st K := rfl
@[simp] theorem step1_slice (t : TypeId) (x : Operand) (a b c : Option Operand) : step1 P dr lo d (.slice t x a b c) st K = outT (evOp P (d.getD 0) st (.slice t x a b c)) d st K := rfl
@[simp] theorem step1_fieldAddr (t : TypeId) (x : Operand) (f : Nat) : step1 P dr lo d (.fieldAddr t x f) st K = outT (evOp P (d.getD 0) st (.fieldAddr t x f)) d st K := rfl
@[simp] theorem step1_field (t : TypeId) (x : Operand) (f : Nat) : step1 P dr lo d (.field t x f) st K = outT (evOp P (d.getD 0) st (.field t x f)) d st K := rfl
@[simp] theorem step1_indexAddr (t : TypeId) (x y : Operand) : step1 P dr lo d (.indexAddr t x y) st K = outT (evOp P (d.getD 0) st (.indexAddr t x y)) d st K := rfl
@[simp] theorem step1_index (t : TypeId) (x y : Operand) : step1 P dr lo d (.index t x y) st K = outT (evOp P (d.getD 0) st (.index t x y)) d st K := rfl
@[simp] theorem step1_makeMap (t : TypeId) (x : Option Operand) : step1 P dr lo d (.makeMap t x) st K = outT (evOp P (d.getD 0) st (.makeMap t x)) d st K := rfl
@[simp] theorem step1_lookup (t : TypeId) (x y : Operand) (b : Bool) : step1 P dr lo d (.lookup t x y b) st K = outT (evOp P (d.getD 0) st (.lookup t x y b)) d st K := rfl
@[simp] theorem step1_mapUpdate (t : TypeId) (x y z : Operand) : step1 P dr lo d (.mapUpdate t x y z) st K = outT (evOp P (d.getD 0) st (.mapUpdate t x y z)) d st K := rfl
@[simp] theorem step1_makeFunc (f : Fn) (xs ys : Array Operand) : step1 P dr lo d (.makeFunc f xs ys) st K = outT (evOp P (d.getD 0) st (.makeFunc f xs ys)) d st K := rfl
@[simp] theorem step1_makeInterface (t : TypeId) (x : Operand) : step1 P dr lo d (.makeInterface t x) st K = outT (evOp P (d.getD 0) st (.makeInterface t x)) d st K := rfl
@[simp] theorem step1_typeAssert (x : Operand) (t u : TypeId) (b : Bool) : step1 P dr lo d (.typeAssert x t u b) st K = outT (evOp P (d.getD 0) st (.typeAssert x t u b)) d st K := rfl
@[simp] theorem step1_extract (x : Operand) (i : Nat) : step1 P dr lo d (.extract x i) st K = outT (evOp P (d.getD 0) st (.extract x i)) d st K := rfl
@[simp] theorem step1_builtin (b : Builtin) (xs : Array Operand) (ts : Array TypeId) : step1 P dr lo d (.call ⟨.builtin b, xs, ts⟩) st K = outT (evOp P (d.getD 0) st (.call ⟨.builtin b, xs, ts⟩)) d st K := rfl
@[simp] theorem step1_call (f : FuncId) (xs : Array Operand) (ts : Array TypeId) : step1 P dr lo d (.call ⟨.value (.func f), xs, ts⟩) st K = callT P f (muteB dr lo d) st (xs.toList.map st.ev) d K := rfl
end
/-- A loop, its invariant with a number that falls. -/
theorem wp1_loop {P : Program} {c : Code1} {Q : Ex → St → Prop} {st : St} (I : Nat → St → Prop) (n : Nat) (h0 : I n st)
    (h : ∀ n s, I n s → ∀ K : St → Prop, (∀ m s', m < n → I m s' → K s') → wp1 P c (thenQ K Q) s) : wp1 P (.loop c) Q st := by
  classical
  have least : ∀ s, (∃ n, I n s) → ∃ n, I n s ∧ ∀ k, I k s → n ≤ k := fun s ⟨n, hn⟩ => by
    induction n using Nat.strongRecOn with
    | _ n ih =>
      by_cases hlt : ∃ k, k < n ∧ I k s
      · obtain ⟨k, hk1, hk2⟩ := hlt
        exact ih k hk1 hk2
      · exact ⟨n, hn, fun k hk => Nat.le_of_not_lt fun hlt' => hlt ⟨k, hlt', hk⟩⟩
  let μ : St → Nat := fun s => if hex : ∃ n, I n s then (least s hex).choose else 0
  refine ⟨fun s => ∃ n, I n s, μ, ⟨n, h0⟩, fun s hex => ?_⟩
  have hs := (least s hex).choose_spec
  refine h _ s hs.1 _ fun m s' hm hI => ?_
  have hex' : ∃ n, I n s' := ⟨m, hI⟩
  have h1 : μ s' = (least s' hex').choose := by simp only [μ, dif_pos hex']
  have h2 : μ s = (least s hex).choose := by simp only [μ, dif_pos hex]
  have h3 := (least s' hex').choose_spec.2 m hI
  exact ⟨⟨m, hI⟩, by omega⟩

/-- A call whose result names nothing. -/
theorem callT_flat {P : Program} {f : FuncId} {mute : Bool} {st : St} {vs : List AV} {d : Option Nat} {K : St → Prop} {ags : List Arg} {res : RV} (h : CallsF P f ags res []) (hf : res.flat) (ha : st.args vs ags) (hm : mutsOf vs ags = [])
    (hK : K ((st.eff (retOf d res).2).put d (retOf d res).1)) : callT P f mute st vs d K := by
  have ho : outEff vs ags [] = [] := by
    have := outEff_ids (st := st) ha h.2.1
    rw [hm] at this
    exact List.map_eq_nil_iff.1 this
  unfold callT CallK
  refine ⟨nones ags, vs, ags, res, [], true, flatV_args ha, .inl ha, ⟨by rw [hm]; exact List.nodup_nil, by rw [hm]; simp⟩, h, fun _ => ⟨hf, trivial⟩, fun _ => by simp [callFrz, ho], ?_⟩
  simpa [callFrz, ho] using hK
theorem callT_gen {P : Program} {f : FuncId} {mute : Bool} {st : St} {vs : List AV} {d : Option Nat} {K : St → Prop} {ags : List Arg} {res : RV} {outs : List (Option Arg)} (keep : Bool) (h : CallsF P f ags res outs) (hf : keep = true → res.flat ∧ Arg.flats outs) (ha : st.args vs ags) (hm : apartArgs vs ags)
    (hmu : mute = true → callFrz keep st vs ags ++ outEff vs ags outs = [])
    (hK : K ((st.eff (callFrz keep st vs ags ++ outEff vs ags outs ++ (retOf d res).2)).put d (retOf d res).1)) : callT P f mute st vs d K := by
  unfold callT CallK
  exact ⟨nones ags, vs, ags, res, outs, keep, flatV_args ha, .inl ha, hm, h, hf, hmu, hK⟩

theorem callT_sh {P : Program} {f : FuncId} {mute : Bool} {st : St} {vs : List AV} {d : Option Nat} {K : St → Prop} {sh : Shape} {vsF : List AV} {ags : List Arg} {res : RV} {outs : List (Option Arg)} (keep : Bool) (h : CallsFS P f sh ags res outs) (hfl : flatV sh vs = some vsF) (ha : st.args vsF ags) (hf : keep = true → res.flat ∧ Arg.flats outs) (hm : apartArgs vsF ags)
    (hmu : mute = true → callFrz keep st vsF ags ++ outEff vsF ags outs = [])
    (hK : K ((st.eff (callFrz keep st vsF ags ++ outEff vsF ags outs ++ (retOf d res).2)).put d (retOf d res).1)) : callT P f mute st vs d K := by
  unfold callT CallK
  exact ⟨sh, vsF, ags, res, outs, keep, hfl, .inl ha, hm, h, hf, hmu, hK⟩

/-- A call of a function that only reads, of rows whose cells may name rows. -/
theorem callT_read {P : Program} {f : FuncId} {mute : Bool} {st : St} {vs : List AV} {d : Option Nat} {K : St → Prop} {sh : Shape} {vsF : List AV} {ags : List Arg} {res : RV} (h : CallsFS P f sh ags res []) (hfl : flatV sh vs = some vsF) (ha : st.argsR vsF ags) (hf : res.flat)
    (hK : K ((st.eff (retOf d res).2).put d (retOf d res).1)) : callT P f mute st vs d K := by
  unfold callT CallK
  obtain ⟨e1, e2⟩ := argsR_muts ha (outs := [])
  refine ⟨sh, vsF, ags, res, [], true, hfl, .inr ⟨rfl, ha⟩, ⟨by rw [e1]; exact List.nodup_nil, by rw [e1]; simp⟩, h, fun _ => ⟨hf, trivial⟩, fun _ => by simp [callFrz, e2], ?_⟩
  simpa [callFrz, e2] using hK

attribute [irreducible] wp1 wpM stepG step1 guard1 condK outT callT
end Cal

/- A calculus of our own: regions in a drawn order in which a load and an append stand side by side: that they do not meet is shown where they run. No program is named here. -/
set_option linter.unusedSimpArgs false
set_option linter.unusedVariables false
namespace Cal
open Go Go.RowKit

variable {H : Nat → Nat × Nat} {P : Program} {w0 w : World} {S0 S S2 : Nat → Prop} {own : List Nat} {X : Nat → Value} {N : Nat} {m cap : Id → Nat} {st st2 : St} {a : Act} {d : Nat} {rg : Rg} {o : Oper} {v : AV} {f : Eff} {p : Id → Prop}

def plainV : AV → Bool
  | .t (.v _) => true
  | _ => false
/-- The object that a load reads; a slice literal of plain values reads none. -/
def rdA (st : St) : Op → Option Id
  | .load _ a => match st.ev a with
    | .ptr id _ _ => some id
    | _ => none
  | .buildSlice _ _ parts => if (parts.toList.all fun p => plainV (st.ev p.2)) = true then none else some (0, 0)
  | _ => none
/-- What loads read (false), what appends touch (true). -/
abbrev PL := List (Bool × Id)
def pendV (d : Nat) (pend : PL) : AV → PL
  | .row id _ _ _ => (true, (d, 0)) :: (true, id) :: pend
  | _ => (true, (d, 0)) :: pend
def pendO (op : Op) (d : Nat) (st : St) (pend : PL) : PL := match op with
  | .call { callee := .builtin .append, args := args, .. } => match args.toList with
    | [x, _] => pendV d pend (st.ev x)
    | _ => pend
  | op => match rdA st op with
    | some id => (false, id) :: pend
    | none => pend
def oblV (d : Nat) (pend : PL) : AV → Prop
  | .row id _ _ _ => ∀ q ∈ pend, q.1 = false → q.2 ≠ (d, 0) ∧ q.2 ≠ id
  | _ => ∀ q ∈ pend, q.1 = false → q.2 ≠ (d, 0)
/-- What is to be shown at an append: it does not touch what the loads ahead of it read; at a load, the other way round; at a slice literal behind an append: its parts are plain. -/
def oblO (op : Op) (d : Nat) (pend : PL) (st : St) : Prop := match op with
  | .call { callee := .builtin .append, args := args, .. } => match args.toList with
    | [x, _] => oblV d pend (st.ev x)
    | _ => True
  | .load t a => ∀ id, rdA st (.load t a) = some id → ∀ q ∈ pend, q.1 = true → q.2 ≠ id
  | .buildSlice t n parts => rdA st (.buildSlice t n parts) = none ∨ ∀ q ∈ pend, q.1 = false
  | _ => True
def isBuild : Op → Bool
  | .buildSlice _ _ _ => true
  | _ => false
def isLoad : Op → Bool
  | .load _ _ => true
  | _ => false
def isAppend : Op → Bool
  | .call { callee := .builtin .append, .. } => true
  | _ => false

abbrev Tr := AV × Eff × Option Id
/-- A run, in some order, of operations whose outcomes are given. -/
def RunZ (P : Program) (rg : Rg) : List (Oper × Tr) → St → (St → Prop) → Prop
  | [], st, K => K st
  | z :: l, st, K => OutG P rg z.1 st z.2.1 z.2.2.1 ∧ rdA st z.1.op = z.2.2.2 ∧ RunZ P rg l ((st.eff z.2.2.1).put z.1.dst z.2.1) K
def noT (r : Option Id) (f : Eff) : Prop := ∀ id, r = some id → ∀ e ∈ f, e.1 ≠ id
/-- A load and an append, both carried out in any case. -/
def dynB (rg : Rg) (x y : Oper) : Bool := x.apart rg.ops y && isLoad x.op && isAppend y.op && x.guard.isNone && y.guard.isNone
/-- An append, and a load or a slice literal behind it. -/
def dynE (rg : Rg) (x y : Oper) : Bool := x.apart rg.ops y && isAppend x.op && (isLoad y.op || isBuild y.op) && !(loudW rg y) && x.guard.isNone && y.guard.isNone
def noE (x y : Oper × Tr) : Prop := (isLoad y.1.op = true → noT y.2.2.2 x.2.2.1) ∧ (isBuild y.1.op = true → y.2.2.2 = none)
def PairOK (rg : Rg) (x y : Oper × Tr) : Prop := sw rg x.1 y.1 = true ∨ (dynB rg x.1 y.1 = true ∧ noT x.2.2.2 y.2.2.1) ∨ (dynE rg x.1 y.1 = true ∧ noE x y)

theorem rdA_congr {o : Oper} {ops : Array Oper} (hx : ∀ t ∈ o.looksAt ops, st.tm t = st2.tm t) : rdA st o.op = rdA st2 o.op := by
  unfold rdA
  split
  · rename_i t x hop
    have : st.ev x = st2.ev x := by
      cases x with
      | tmp t' => exact hx t' (by unfold Oper.looksAt; exact List.mem_append_left _ (List.mem_filterMap.2 ⟨.tmp t', by rw [hop]; simp [Op.operands], rfl⟩))
      | _ => rfl
    rw [this]
  · rename_i t n parts hop
    have : ∀ p ∈ parts.toList, st.ev p.2 = st2.ev p.2 := fun p hp => by
      cases hp2 : p.2 with
      | tmp t' => exact hx t' (by unfold Oper.looksAt; exact List.mem_append_left _ (List.mem_filterMap.2 ⟨.tmp t', by rw [hop]; simp [Op.operands]; exact ⟨p.1, by rw [← hp2]; simpa using hp⟩, rfl⟩))
      | _ => rfl
    have e : (parts.toList.all fun p => plainV (st.ev p.2)) = parts.toList.all fun p => plainV (st2.ev p.2) := by
      rw [Bool.eq_iff_iff, List.all_eq_true, List.all_eq_true]
      exact ⟨fun h p hp => by rw [← this p hp]; exact h p hp, fun h p hp => by rw [this p hp]; exact h p hp⟩
    rw [e]
  · rfl

theorem load_out {t : TypeId} {x : Operand} (hop : o.op = .load t x) (hg : o.guard = none) : OutG P rg o st v f ↔ ∃ i, tinf P t = some i ∧ loadA st i.agg i.size (st.ev x) = some v ∧ f = [] := by
  have hne : ∀ (g : FuncId) (args : Array Operand) (ats : Array TypeId), o.op ≠ .call ⟨.value (.func g), args, ats⟩ := fun g args ats e => by rw [hop] at e; cases e
  unfold OutG
  rw [OutOp_other hne, hg, hop]
  simp only [guardA, noisy, Bool.false_and, muted, evOp]
  constructor
  · rintro (⟨_, h⟩ | ⟨h, _⟩)
    · cases hi : tinf P t with
      | none => simp [hi] at h
      | some i =>
        simp only [hi, Option.bind_some] at h
        cases hl : loadA st i.agg i.size (st.ev x) with
        | none => simp [hl] at h
        | some u =>
          simp only [hl, Option.map_some, Option.some.injEq, Prod.mk.injEq, Bool.false_eq_true, if_false] at h
          obtain ⟨rfl, rfl⟩ := h
          exact ⟨i, rfl, hl, rfl⟩
    · cases h
  · rintro ⟨i, h1, h2, rfl⟩
    left
    simp [h1, h2]

theorem loadA_at {agg : Bool} {size : Nat} {u : AV} (h : ∀ id i j, u = .ptr id i j → st.ob id = st2.ob id) : loadA st agg size u = loadA st2 agg size u := by
  cases u with
  | ptr id i j => simp only [loadA, h id i j rfl]
  | _ => rfl

theorem swapD {x y : Oper} {vx vy : AV} {fx fy : Eff} (hd : dynB rg x y = true) (h1 : OutG P rg x st vx fx) (h2 : OutG P rg y ((st.eff fx).put x.dst vx) vy fy) (hn : noT (rdA st x.op) fy) :
    OutG P rg y st vy fy ∧ OutG P rg x ((st.eff fy).put y.dst vy) vx fx ∧ (((st.eff fx).put x.dst vx).eff fy).put y.dst vy = (((st.eff fy).put y.dst vy).eff fx).put x.dst vx := by
  unfold dynB at hd
  simp only [Bool.and_eq_true, Option.isNone_iff_eq_none] at hd
  obtain ⟨⟨⟨⟨hap, hl⟩, ha⟩, g1⟩, g2⟩ := hd
  obtain ⟨a1, a2, a3⟩ := Oper.apart_spec hap
  have hop : ∃ t u, x.op = .load t u := by
    unfold isLoad at hl
    split at hl
    · exact ⟨_, _, by assumption⟩
    · cases hl
  obtain ⟨t, u, hop⟩ := hop
  obtain ⟨i, k1, k2, rfl⟩ := (load_out hop g1).1 h1
  refine ⟨?_, ?_, commute a2 fun id ⟨e1, he1, _⟩ _ => by simp at he1⟩
  · refine (outG_congr (p := fun _ => False) (st := st) (st2 := (st.eff []).put x.dst vx) (fun t ht => ?_) (fun _ => ⟨fun id _ => by rw [ob_put]; rfl, ⟨fun t => AV.free_false _, fun t => AV.free_false _, fun _ _ _ => AV.frees_false _, fun _ h => h.elim⟩⟩)).2 h2
    rw [tm_put', eff_tm, if_neg fun e => a1 t e ht]
  · refine (load_out hop g1).2 ⟨i, k1, ?_, rfl⟩
    have hev : ((st.eff fy).put y.dst vy).ev u = st.ev u := by
      cases u with
      | tmp t' =>
        show ((st.eff fy).put y.dst vy).tm t' = st.tm t'
        rw [tm_put', eff_tm, if_neg fun e => a3 t' e (by unfold Oper.looksAt; exact List.mem_append_left _ (List.mem_filterMap.2 ⟨.tmp t', by rw [hop]; simp [Op.operands], rfl⟩))]
      | _ => rfl
    rw [hev, ← k2]
    refine loadA_at fun id i j e => ?_
    rw [ob_put]
    refine eff_not fun hm => ?_
    obtain ⟨e', he', hid⟩ := List.mem_map.1 hm
    refine hn id ?_ e' he' hid
    rw [hop]
    simp only [rdA, e]

theorem litA_plain {size : Nat} : ∀ {ps : List (Nat × Operand)} {k : Nat}, (∀ q ∈ ps, st.ev q.2 = st2.ev q.2) → (∀ q ∈ ps, plainV (st.ev q.2) = true) → litA st size k ps = litA st2 size k ps
  | [], _, _, _ => rfl
  | (i, x) :: ps, k, he, hp => by
    have hx := he (i, x) (by simp)
    have hpx := hp (i, x) (by simp)
    simp only at hx hpx
    unfold litA
    rw [litA_plain (fun q hq => he q (by simp [hq])) (fun q hq => hp q (by simp [hq])), ← hx]
    cases hv : st.ev x with
    | t y =>
      cases y with
      | v c => rfl
      | _ => rw [hv] at hpx; cases hpx
    | _ => rw [hv] at hpx; cases hpx
theorem build_plain {t : TypeId} {n : Nat} {parts : Array (Nat × Operand)} (he : ∀ q ∈ parts.toList, st.ev q.2 = st2.ev q.2) (hp : ∀ q ∈ parts.toList, plainV (st.ev q.2) = true) : evOp P d st (.buildSlice t n parts) = evOp P d st2 (.buildSlice t n parts) := by
  simp only [evOp, litRef_congr he]
  simp only [show ∀ size, litA st size 0 parts.toList = litA st2 size 0 parts.toList from fun size => litA_plain he hp, show ∀ size, litB st size 0 parts.toList = litB st2 size 0 parts.toList from fun size => litB_congr he]

theorem swapE {x y : Oper} {vx vy : AV} {fx fy : Eff} {ry : Option Id} (hd : dynE rg x y = true) (hx : okOper N x = true) (hy : okOper N y = true) (fx' : mkO x.op = true → ∀ t, x.dst = some t → st.Free (·.1 = t)) (fy' : mkO y.op = true → ∀ t, y.dst = some t → st.Free (·.1 = t))
    (h1 : OutG P rg x st vx fx) (h2 : OutG P rg y ((st.eff fx).put x.dst vx) vy fy) (hry : rdA ((st.eff fx).put x.dst vx) y.op = ry) (hn1 : isLoad y.op = true → noT ry fx) (hn2 : isBuild y.op = true → ry = none) :
    OutG P rg y st vy fy ∧ OutG P rg x ((st.eff fy).put y.dst vy) vx fx ∧ (((st.eff fx).put x.dst vx).eff fy).put y.dst vy = (((st.eff fy).put y.dst vy).eff fx).put x.dst vx := by
  unfold dynE at hd
  simp only [Bool.and_eq_true, Option.isNone_iff_eq_none, Bool.not_eq_true', Bool.or_eq_true] at hd
  obtain ⟨⟨⟨⟨⟨hap, ha⟩, hl⟩, hlw⟩, g1⟩, g2⟩ := hd
  obtain ⟨a1, a2, a3⟩ := Oper.apart_spec hap
  have atx := outG_at hx h1
  have free1 : ∀ {z : Oper}, (mkO z.op = true → ∀ t, z.dst = some t → st.Free (·.1 = t)) → st.Free (fun id => mkO z.op = true ∧ z.dst = some id.1) := by
    intro z hz
    by_cases hm : mkO z.op = true
    · cases hd : z.dst with
      | none =>
        have e : (fun id : Id => mkO z.op = true ∧ (none : Option Nat) = some id.1) = fun _ => False := by funext id; simp
        rw [e]
        exact ⟨fun t => AV.free_false _, fun t => AV.free_false _, fun _ _ _ => AV.frees_false _, fun _ h => h.elim⟩
      | some t => exact (hz hm t hd).mono fun id hid => by have := hid.2; simp at this; exact this.symm
    · have e : (fun id : Id => mkO z.op = true ∧ z.dst = some id.1) = fun _ => False := by funext id; simp [hm]
      rw [e]
      exact ⟨fun t => AV.free_false _, fun t => AV.free_false _, fun _ _ _ => AV.frees_false _, fun _ h => h.elim⟩
  have frx := free1 fx'
  have fry := free1 fy'
  have hev : ∀ u : Operand, (∀ t', u = .tmp t' → t' ∈ y.looksAt rg.ops) → ((st.eff fx).put x.dst vx).ev u = st.ev u := fun u hu => by
    cases u with
    | tmp t' =>
      show ((st.eff fx).put x.dst vx).tm t' = st.tm t'
      rw [tm_put', eff_tm, if_neg fun e => a1 t' e (hu t' rfl)]
    | _ => rfl
  have hy2 : OutG P rg y st vy fy := by
    rcases hl with hl | hl
    · have hop : ∃ t u, y.op = .load t u := by
        unfold isLoad at hl
        split at hl
        · exact ⟨_, _, by assumption⟩
        · cases hl
      obtain ⟨t, u, hop⟩ := hop
      obtain ⟨i, k1, k2, rfl⟩ := (load_out hop g2).1 h2
      have hu := hev u fun t' ht' => by unfold Oper.looksAt; exact List.mem_append_left _ (List.mem_filterMap.2 ⟨.tmp t', by rw [hop, ht']; simp [Op.operands], rfl⟩)
      refine (load_out hop g2).2 ⟨i, k1, ?_, rfl⟩
      rw [← k2, hu]
      refine loadA_at fun id i j e => ?_
      rw [ob_put]
      refine (eff_not fun hm => ?_).symm
      obtain ⟨e', he', hid⟩ := List.mem_map.1 hm
      refine hn1 (by rw [hop]; rfl) id ?_ e' he' hid
      rw [← hry, hop]
      simp only [rdA, hu, e]
    · have hop : ∃ t n ps, y.op = .buildSlice t n ps := by
        unfold isBuild at hl
        split at hl
        · exact ⟨_, _, _, by assumption⟩
        · cases hl
      obtain ⟨t, n, ps, hop⟩ := hop
      have hne : ∀ (g : FuncId) (args : Array Operand) (ats : Array TypeId), y.op ≠ .call ⟨.value (.func g), args, ats⟩ := fun g args ats e => by rw [hop] at e; cases e
      have hr := hn2 (by rw [hop]; rfl)
      rw [← hry, hop] at hr
      have hpl : ∀ q ∈ ps.toList, plainV (((st.eff fx).put x.dst vx).ev q.2) = true := by
        simp only [rdA] at hr
        split at hr
        · rename_i h; exact List.all_eq_true.1 h
        · cases hr
      have he : ∀ q ∈ ps.toList, ((st.eff fx).put x.dst vx).ev q.2 = st.ev q.2 := fun q hq => hev q.2 fun t' ht' => by
        unfold Oper.looksAt
        exact List.mem_append_left _ (List.mem_filterMap.2 ⟨.tmp t', by rw [hop]; simp [Op.operands]; exact ⟨q.1, by rw [← ht']; simpa using hq⟩, rfl⟩)
      rcases h2 with ⟨q1, q2⟩ | ⟨q1, _⟩
      · left
        refine ⟨by rw [g2]; rfl, ?_⟩
        rw [OutOp_other hne] at q2 ⊢
        rw [hop] at q2 ⊢
        rw [← build_plain (st := (st.eff fx).put x.dst vx) (st2 := st) he hpl]
        exact q2
      · rw [g2] at q1; cases q1
  have aty := outG_at hy hy2
  refine ⟨hy2, ?_, commute a2 fun id ⟨e1, he1, i1⟩ ⟨e2, he2, i2⟩ => ?_⟩
  · refine (outG_congr (p := fun id => mkO y.op = true ∧ y.dst = some id.1) (st := st) (st2 := (st.eff fy).put y.dst vy) (fun t ht => ?_) (fun hpk => ?_)).1 h1
    · rw [tm_put', eff_tm, if_neg fun e => a3 t e ht]
    · refine ⟨fun id hid => ?_, fry⟩
      rw [ob_put, eff_not fun hm => ?_]
      obtain ⟨e, he, rfl⟩ := List.mem_map.1 hm
      rcases aty e he with hh | ⟨hh, _⟩
      · exact hid hh
      · rw [hlw] at hh; cases hh
  · have k1 := atx e1 he1
    have k2 := aty e2 he2
    rw [i1] at k1
    rw [i2] at k2
    rcases k1 with k1 | ⟨k1, k1'⟩ <;> rcases k2 with k2 | ⟨k2, k2'⟩
    · exact a2 id.1 k1.2 k2.2
    · exact k2' (frx.none id k1)
    · exact k1' (fry.none id k2)
    · rw [k2] at hlw; cases hlw

/-- An operation is moved to the front. -/
theorem frontD {K : St → Prop} {y : Oper × Tr} {post : List (Oper × Tr)} : ∀ (pre : List (Oper × Tr)) (st : St), (∀ x ∈ pre, PairOK rg x y) → (∀ x ∈ pre ++ y :: post, okOper N x.1 = true) → Fresh ((pre ++ y :: post).map (·.1)) st → RunZ P rg (pre ++ y :: post) st K → RunZ P rg (y :: (pre ++ post)) st K
  | [], st, _, _, _, h => h
  | x :: pre, st, hs, hok, hf, h => by
    unfold RunZ at h
    rw [List.cons_append] at h
    obtain ⟨h1, hr, h2⟩ := h
    have hxok := hok x (by simp)
    have ih := frontD pre _ (fun z hz => hs z (by simp [hz])) (fun z hz => hok z (by simp only [List.cons_append, List.mem_cons]; exact .inr hz)) (hf.step hxok h1) h2
    unfold RunZ at ih
    obtain ⟨h3, hry, h4⟩ := ih
    have key : OutG P rg y.1 st y.2.1 y.2.2.1 ∧ OutG P rg x.1 ((st.eff y.2.2.1).put y.1.dst y.2.1) x.2.1 x.2.2.1 ∧ (((st.eff x.2.2.1).put x.1.dst x.2.1).eff y.2.2.1).put y.1.dst y.2.1 = (((st.eff y.2.2.1).put y.1.dst y.2.1).eff x.2.2.1).put x.1.dst x.2.1 := by
      rcases hs x (by simp) with hsw | ⟨hd, hn⟩ | ⟨hd, hn⟩
      · exact swap hsw hxok (hok y (by simp)) (hf.1 x.1 (by simp)) (hf.1 y.1 (by simp)) h1 h3
      · exact swapD hd h1 h3 (by rw [hr]; exact hn)
      · exact swapE hd hxok (hok y (by simp)) (hf.1 x.1 (by simp)) (hf.1 y.1 (by simp)) h1 h3 hry hn.1 hn.2
    obtain ⟨g1, g2, g3⟩ := key
    have hap : x.1.apart rg.ops y.1 = true := by
      rcases hs x (by simp) with hsw | ⟨hd, _⟩ | ⟨hd, _⟩
      · unfold sw at hsw
        simp only [Bool.and_eq_true] at hsw
        exact hsw.1.1.1
      · unfold dynB at hd
        simp only [Bool.and_eq_true] at hd
        exact hd.1.1.1.1
      · unfold dynE at hd
        simp only [Bool.and_eq_true] at hd
        exact hd.1.1.1.1.1
    obtain ⟨a1, a2, a3⟩ := Oper.apart_spec hap
    rw [g3] at h4
    unfold RunZ
    refine ⟨g1, ?_, ?_⟩
    · rw [← hry]
      exact rdA_congr (ops := rg.ops) fun t ht => by rw [tm_put', eff_tm, if_neg fun e => a1 t e ht]
    · rw [List.cons_append]
      unfold RunZ
      refine ⟨g2, ?_, h4⟩
      rw [← hr]
      exact (rdA_congr (ops := rg.ops) fun t ht => by rw [tm_put', eff_tm, if_neg fun e => a3 t e ht])
theorem drawnD_sound (hN : N ≤ base) (tr : Nat → Tr) (hd : ∀ i < rg.ops.size, (∀ e ∈ (opAt rg.ops i).after, Region.binds .any e = true → e.on < i) ∧ ∀ j < i, PairOK rg (opAt rg.ops j, tr j) (opAt rg.ops i, tr i) ∨ Before rg.ops j i) {Q : Exit → Act → World → Prop} {K : St → Prop} (hQ : ∀ st a w, Rel w0 S0 own H X N st a w → K st → Q .normal a w) (hok : ∀ i < rg.ops.size, okOper N (opAt rg.ops i) = true) :
    ∀ (n : Nat) (l : List Nat) (listed : Array Bool) (st : St) (a : Act) (w : World), l.length = n → l.Pairwise (· < ·) → (∀ i ∈ l, i < rg.ops.size) → listed.size = rg.ops.size → (∀ i < rg.ops.size, listed.getD i true = false ↔ i ∈ l) →
      (∀ i < rg.ops.size, i ∉ l → ∀ e ∈ (opAt rg.ops i).after, Region.binds .any e = true → e.on ∉ l) → Rel w0 S0 own H X N st a w → Fresh (l.map (opAt rg.ops)) st → RunZ P rg (l.map fun i => (opAt rg.ops i, tr i)) st K → wpAny P .any rg.ops Q n listed a w := by
  intro n
  induction n with
  | zero =>
    intro l listed st a w hl hs hlt hsz hli hcl hr hf h
    have hnil : l = [] := List.length_eq_zero_iff.1 hl
    subst hnil
    refine ⟨?_, ?_⟩
    · rw [List.eq_nil_iff_forall_not_mem]
      intro i hi
      obtain ⟨h0, o, ho, _⟩ := mem_ready.1 hi
      have hlt' := (Array.getElem?_eq_some_iff.1 ho).1
      exact absurd ((hli i hlt').1 h0) (by simp)
    · simp only [List.map_nil] at h
      unfold RunZ at h
      exact hQ st a w hr h
  | succ n ih =>
    intro l listed st a w hl hs hlt hsz hli hcl hr hf h
    have hlisted : ∀ j < rg.ops.size, listed.getD j false = true ↔ j ∉ l := fun j hj => by
      have h1 := hli j hj
      have hj' : j < listed.size := by omega
      simp only [Array.getD_eq_getD_getElem?, Array.getElem?_eq_getElem hj', Option.getD_some] at h1 ⊢
      rw [← h1]
      cases listed[j] <;> simp
    refine ⟨fun hnil => ?_, fun i hi => ?_⟩
    · exfalso
      cases l with
      | nil => simp at hl
      | cons i l =>
        have hi := hlt i (by simp)
        have : i ∈ Region.ready .any rg.ops listed := by
          refine mem_ready.2 ⟨(hli i hi).2 (by simp), opAt rg.ops i, opAt_some hi, fun e he hb => ?_⟩
          have hlt2 := (hd _ hi).1 e he hb
          refine (hlisted e.on (by omega)).2 fun hm => ?_
          rcases List.mem_cons.1 hm with hm | hm
          · omega
          · have := (List.pairwise_cons.1 hs).1 _ hm
            omega
        rw [hnil] at this
        cases this
    · obtain ⟨h0, o, ho, hall⟩ := mem_ready.1 hi
      have hisz := (Array.getElem?_eq_some_iff.1 ho).1
      have ho' : o = opAt rg.ops i := by have := opAt_some hisz; rw [ho] at this; exact Option.some.inj this
      subst ho'
      have hil : i ∈ l := (hli i hisz).1 h0
      obtain ⟨pre, post, rfl⟩ := List.append_of_mem hil
      have hpre : ∀ j ∈ pre, j < i := fun j hj => (List.pairwise_append.1 hs).2.2 j hj i (by simp)
      have hpost : ∀ j ∈ post, i < j := fun j hj => (List.pairwise_cons.1 (List.pairwise_append.1 hs).2.1).1 j hj
      have hready : ∀ o, rg.ops[i]? = some o → ∀ e ∈ o.after, Region.binds .any e = true → e.on < rg.ops.size ∧ e.on ∉ pre ++ i :: post := fun o hoi e he hb => by
        rw [ho] at hoi
        cases hoi
        have hlt2 := (hd _ hisz).1 e he hb
        exact ⟨by omega, (hlisted e.on (by omega)).1 (hall e he hb)⟩
      have hsw : ∀ x ∈ pre.map (fun i => (opAt rg.ops i, tr i)), PairOK rg x (opAt rg.ops i, tr i) := fun x hx => by
        obtain ⟨j, hj, rfl⟩ := List.mem_map.1 hx
        rcases (hd _ hisz).2 j (hpre j hj) with hh | hh
        · exact hh
        · exfalso
          have := hh.listed (p := fun k => k < rg.ops.size ∧ k ∉ pre ++ i :: post) (fun k o hk hp e he hb => by
            have hk' : o = opAt rg.ops k := by have := opAt_some hp.1; rw [hk] at this; exact Option.some.inj this
            subst hk'
            have hlt2 := (hd _ hp.1).1 e he hb
            exact ⟨by omega, hcl k hp.1 hp.2 e he hb⟩) hready
          exact this.2 (by simp [hj])
      rw [List.map_append, List.map_cons] at h hf
      have h2 := frontD (N := N) (pre.map fun i => (opAt rg.ops i, tr i)) st hsw (fun x hx => by
        rw [← List.map_cons (f := fun i => (opAt rg.ops i, tr i)), ← List.map_append] at hx
        obtain ⟨j, hj, rfl⟩ := List.mem_map.1 hx
        exact hok j (hlt j hj)) (by
          have e : ((pre.map fun i => (opAt rg.ops i, tr i)) ++ (opAt rg.ops i, tr i) :: post.map fun i => (opAt rg.ops i, tr i)).map (·.1) = pre.map (opAt rg.ops) ++ opAt rg.ops i :: post.map (opAt rg.ops) := by
            rw [List.map_append, List.map_cons, List.map_map, List.map_map]
            rfl
          rw [e]
          exact hf) h
      have hf2 := hf.front
      unfold RunZ at h2
      obtain ⟨g1, _, g2⟩ := h2
      obtain ⟨m, cap, S, hr, hH⟩ := hr
      refine outG_wp rfl ho hN (hok i hisz) hr hH (hf2.1 _ (by simp)) g1 fun a' w' hr' => ?_
      have hni : ∀ {j}, j ∈ pre ++ post → j ≠ i := fun {j} hj => by
        rcases List.mem_append.1 hj with hj | hj
        · have := hpre j hj; omega
        · have := hpost j hj; omega
      refine ih (pre ++ post) (listed.setIfInBounds i true) _ a' w' (by simp at hl ⊢; omega) ?_ (fun j hj => hlt j (by simp at hj ⊢; rcases hj with hj | hj; exact .inl hj; exact .inr (.inr hj))) (by simpa using hsz) (fun j hj => ?_) (fun j hj hjl e he hb => ?_) hr' ?_ ?_
      · obtain ⟨s1, s2, s3⟩ := List.pairwise_append.1 hs
        exact List.pairwise_append.2 ⟨s1, (List.pairwise_cons.1 s2).2, fun x hx y hy => s3 x hx y (by simp [hy])⟩
      · by_cases hji : j = i
        · subst hji
          have h1 : (listed.setIfInBounds j true).getD j true = true := by
            have : j < listed.size := by omega
            simp [Array.getD_eq_getD_getElem?, this]
          rw [h1]
          constructor
          · intro h; cases h
          · intro h; exact absurd rfl (hni h)
        · rw [getD_set_ne true (fun e => hji e.symm), hli j hj]
          simp [hji]
      · by_cases hji : j = i
        · subst hji
          have := (hready _ ho e he hb).2
          simp only [List.mem_append, List.mem_cons, not_or] at this ⊢
          exact ⟨this.1, this.2.2⟩
        · have := hcl j hj (by
            simp only [List.mem_append, List.mem_cons, not_or] at hjl ⊢
            exact ⟨hjl.1, hji, hjl.2⟩) e he hb
          simp only [List.mem_append, List.mem_cons, not_or] at this ⊢
          exact ⟨this.1, this.2.2⟩
      · rw [List.map_append]
        exact hf2.step (hok i hisz) g1
      · rw [List.map_append]
        exact g2


/-! ### what is shown in the text's order -/
def wpLD (P : Program) (rg : Rg) : List Oper → PL → St → (St → Prop) → Prop
  | [], _, st, K => K st
  | o :: l, pend, st, K => oblO o.op (o.dst.getD 0) pend st ∧ ∃ v f, OutG P rg o st v f ∧ wpLD P rg l (pendO o.op (o.dst.getD 0) st pend) ((st.eff f).put o.dst v) K

theorem pend_fin {v0 : AV} {d : Nat} {pend : PL} {f : Eff} (key : ∀ e ∈ f, e.1 = (d, 0) ∨ ∃ id sz i n, v0 = .row id sz i n ∧ e.1 = id) (hob : oblV d pend v0) : (∀ q ∈ pend, q.1 = false → ∀ e ∈ f, e.1 ≠ q.2) ∧ (∀ e ∈ f, (true, e.1) ∈ pendV d pend v0) ∧ ∀ q ∈ pend, q ∈ pendV d pend v0 := by
  refine ⟨fun q hq hq0 e he hqe => ?_, fun e he => ?_, fun q hq => ?_⟩
  · rcases key e he with h1 | ⟨id, sz, i, n, hx, h1⟩
    · unfold oblV at hob
      split at hob
      · exact (hob q hq hq0).1 (hqe ▸ h1)
      · exact hob q hq hq0 (hqe ▸ h1)
    · rw [hx] at hob
      exact (hob q hq hq0).2 (hqe ▸ h1)
  · rcases key e he with h1 | ⟨id, sz, i, n, hx, h1⟩
    · rw [h1]
      unfold pendV
      split <;> simp
    · rw [hx, h1]
      unfold pendV
      simp
  · unfold pendV
    split <;> simp [hq]
theorem append_ids {args : Array Operand} {ts : Array TypeId} (hop : o.op = .call ⟨.builtin .append, args, ts⟩) (hg : o.guard = none) (h : OutG P rg o st v f) {pend : PL} (hob : oblO o.op (o.dst.getD 0) pend st) : (∀ q ∈ pend, q.1 = false → ∀ e ∈ f, e.1 ≠ q.2) ∧ (∀ e ∈ f, (true, e.1) ∈ pendO o.op (o.dst.getD 0) st pend) ∧ ∀ q ∈ pend, q ∈ pendO o.op (o.dst.getD 0) st pend := by
  have hne : ∀ (g : FuncId) (args : Array Operand) (ats : Array TypeId), o.op ≠ .call ⟨.value (.func g), args, ats⟩ := fun g args ats e => by rw [hop] at e; cases e
  have h' : callA P (o.dst.getD 0) st .append args.toList ts.toList = some (v, f) := by
    rcases h with ⟨_, h⟩ | ⟨h, _⟩
    · have h2 := (OutOp_other hne).1 h
      rw [hop] at h2
      simpa [noisy, muted, evOp] using h2
    · rw [hg] at h
      cases h
  rw [hop] at hob ⊢
  simp only [oblO, pendO] at hob ⊢
  generalize args.toList = al at *
  generalize ts.toList = tl at *
  match al, tl, h' with
  | [x, y], [t, t2], h' =>
    simp only [callA] at h'
    simp only at hob
    split at h'
    · cases he : elemOf P t with
      | none => simp [he] at h'
      | some ei =>
        simp only [he, Option.bind_some] at h'
        have key : ∀ e ∈ f, e.1 = (o.dst.getD 0, 0) ∨ ∃ id sz i n, st.ev x = .row id sz i n ∧ e.1 = id := by
          unfold appendO at h'
          split at h'
          · cases hb : elemsB st ei.2.size (st.ev y) with
            | none => simp [hb] at h'
            | some es =>
              simp only [hb, Option.bind_some] at h'
              unfold appendB at h'
              split at h'
              · cases h'
              · split at h'
                · split at h' <;> cases h'
                  intro e he; simp at he; subst he; exact .inl rfl
                · rename_i id n hx
                  split at h'
                  · split at h' <;> cases h'
                    intro e he; simp at he
                    rcases he with rfl | rfl
                    · exact .inr ⟨_, _, _, _, hx, rfl⟩
                    · exact .inl rfl
                  · cases h'
                · cases h'
          · cases hb : elemsA st ei.2.size (st.ev y) with
            | none => simp [hb] at h'
            | some es =>
              simp only [hb, Option.bind_some] at h'
              unfold appendA at h'
              split at h'
              · cases h'
              · split at h'
                · split at h'
                  · simp only [Option.some.injEq] at h'
                    split at h' <;> cases h'
                    · intro e he; simp at he
                    · intro e he; simp at he; subst he; exact .inl rfl
                  · cases h'
                · rename_i id n hx
                  split at h'
                  · split at h' <;> cases h'
                    intro e he; simp at he
                    rcases he with rfl | rfl
                    · exact .inr ⟨_, _, _, _, hx, rfl⟩
                    · exact .inl rfl
                  · cases h'
                · cases h'
        exact pend_fin key hob
    · split at h'
      · cases he : elemOf P t with
        | none => simp [he] at h'
        | some ei =>
          simp only [he, Option.bind_some] at h'
          have key : ∀ e ∈ f, e.1 = (o.dst.getD 0, 0) ∨ ∃ id sz i n, st.ev x = .row id sz i n ∧ e.1 = id := by
            unfold appendS at h'
            split at h'
            · split at h'
              · split at h'
                · split at h' <;> cases h'
                  intro e he; simp at he; subst he; exact .inl rfl
                · rename_i id _ n hx
                  split at h'
                  · split at h' <;> cases h'
                    intro e he; simp at he
                    rcases he with rfl | rfl
                    · exact .inr ⟨_, _, _, _, hx, rfl⟩
                    · exact .inl rfl
                  · cases h'
                · cases h'
              · cases h'
            · cases h'
          exact pend_fin key hob
      · cases h'

theorem pend_mono {op : Op} (ha : isAppend op = false) {d : Nat} {pend : PL} : ∀ q ∈ pend, q ∈ pendO op d st pend := by
  intro q hq
  unfold pendO
  split
  · cases ha
  · split
    · exact List.mem_cons_of_mem _ hq
    · exact hq
theorem traced {K : St → Prop} : ∀ (os : List Oper) (pend : PL) (st : St), (∀ o ∈ os, isAppend o.op = true → o.guard = none) → wpLD P rg os pend st K → ∃ tz : List (Oper × Tr), tz.map (·.1) = os ∧ RunZ P rg tz st K ∧ (∀ z ∈ tz, isAppend z.1.op = true → z.1.guard = none → ∀ q ∈ pend, q.1 = false → ∀ e ∈ z.2.2.1, e.1 ≠ q.2) ∧
    (∀ z ∈ tz, ∀ q ∈ pend, q.1 = true → (isLoad z.1.op = true → ∀ id, z.2.2.2 = some id → q.2 ≠ id) ∧ (isBuild z.1.op = true → z.2.2.2 = none)) ∧ tz.Pairwise fun x y => (dynB rg x.1 y.1 = true → noT x.2.2.2 y.2.2.1) ∧ (dynE rg x.1 y.1 = true → noE x y)
  | [], pend, st, _, h => ⟨[], rfl, by unfold wpLD at h; unfold RunZ; exact h, by simp, by simp, List.Pairwise.nil⟩
  | o :: os, pend, st, hga, h => by
    unfold wpLD at h
    obtain ⟨hob, v, f, h1, h2⟩ := h
    obtain ⟨tz, e1, e2, e3, e5, e4⟩ := traced os _ _ (fun o' ho' => hga o' (by simp [ho'])) h2
    have keep : ∀ q ∈ pend, q ∈ pendO o.op (o.dst.getD 0) st pend := by
      by_cases ha : isAppend o.op = true
      · have hg := hga o (by simp) ha
        unfold isAppend at ha
        split at ha
        · rename_i hop
          exact (append_ids hop hg h1 hob).2.2
        · cases ha
      · exact pend_mono (by simpa using ha)
    refine ⟨(o, v, f, rdA st o.op) :: tz, by rw [List.map_cons, e1], ?_, fun z hz ha hg => ?_, fun z hz q hq hq1 => ?_, List.pairwise_cons.2 ⟨fun y hy => ⟨fun hd => ?_, fun hd => ?_⟩, e4⟩⟩
    · unfold RunZ
      exact ⟨h1, rfl, e2⟩
    · rcases List.mem_cons.1 hz with rfl | hz
      · unfold isAppend at ha
        split at ha
        · rename_i hop
          exact (append_ids hop hg h1 hob).1
        · cases ha
      · intro q hq hq0
        exact e3 z hz ha hg q (keep q hq) hq0
    · rcases List.mem_cons.1 hz with rfl | hz
      · refine ⟨fun hl id hid => ?_, fun hl => ?_⟩
        · simp only at hl hid
          unfold isLoad at hl
          split at hl
          · rename_i hop
            rw [hop] at hob hid
            simp only [oblO] at hob
            exact hob id hid q hq hq1
          · cases hl
        · simp only at hl ⊢
          unfold isBuild at hl
          split at hl
          · rename_i hop
            rw [hop] at hob ⊢
            simp only [oblO] at hob
            rcases hob with hob | hob
            · exact hob
            · rw [hob q hq] at hq1; cases hq1
          · cases hl
      · exact e5 z hz q (keep q hq) hq1
    · intro id hid
      unfold dynB at hd
      simp only [Bool.and_eq_true, Option.isNone_iff_eq_none] at hd
      refine e3 y hy hd.1.1.2 hd.2 (false, id) ?_ rfl
      simp only at hid
      have hl := hd.1.1.1.2
      unfold isLoad at hl
      split at hl
      · rename_i hop
        rw [hop] at hid ⊢
        simp only [pendO, hid]
        simp
      · cases hl
    · unfold dynE at hd
      simp only [Bool.and_eq_true, Option.isNone_iff_eq_none] at hd
      have ha := hd.1.1.1.1.2
      have hg := hd.1.2
      have hap : ∃ args ts, o.op = .call ⟨.builtin .append, args, ts⟩ := by
        unfold isAppend at ha
        split at ha
        · exact ⟨_, _, by assumption⟩
        · cases ha
      obtain ⟨args, ts, hop⟩ := hap
      obtain ⟨_, k2, _⟩ := append_ids hop hg h1 hob
      refine ⟨fun hl id hid e he => ?_, fun hl => ?_⟩
      · exact (e5 y hy (true, e.1) (k2 e he) rfl).1 hl id hid
      · have hmem : (true, ((o.dst.getD 0, 0) : Id)) ∈ pendO o.op (o.dst.getD 0) st pend := by
          have h3 : callA P (o.dst.getD 0) st .append args.toList ts.toList = some (v, f) := by
            have hne : ∀ (g : FuncId) (args : Array Operand) (ats : Array TypeId), o.op ≠ .call ⟨.value (.func g), args, ats⟩ := fun g args ats e => by rw [hop] at e; cases e
            rcases h1 with ⟨_, h⟩ | ⟨h, _⟩
            · have h2 := (OutOp_other hne).1 h
              rw [hop] at h2
              simpa [noisy, muted, evOp] using h2
            · rw [hg] at h
              cases h
          rw [hop]
          simp only [pendO]
          generalize args.toList = al at *
          generalize ts.toList = tl at *
          match al, tl, h3 with
          | [x, y], [t, t2], h3 =>
            simp only
            unfold pendV
            split <;> simp
        exact (e5 y hy _ hmem rfl).2 hl

/-- What is looked at in such a region. -/
def okDrawnD (rg : Rg) : Bool :=
  let bs := befs [] rg.ops.toList
  (List.range rg.ops.size).all fun i => (opAt rg.ops i).after.toList.all (fun e => !(Region.binds .any e) || decide (e.on < i)) && (List.range i).all fun j => sw rg (opAt rg.ops j) (opAt rg.ops i) || dynB rg (opAt rg.ops j) (opAt rg.ops i) || dynE rg (opAt rg.ops j) (opAt rg.ops i) || (bs.getD i []).contains j
theorem okDrawnD_inv {rg : Rg} (h : okDrawnD rg = true) {i : Nat} (hi : i < rg.ops.size) : (∀ e ∈ (opAt rg.ops i).after, Region.binds .any e = true → e.on < i) ∧ ∀ j < i, ((sw rg (opAt rg.ops j) (opAt rg.ops i) = true ∨ dynB rg (opAt rg.ops j) (opAt rg.ops i) = true) ∨ dynE rg (opAt rg.ops j) (opAt rg.ops i) = true) ∨ Before rg.ops j i := by
  unfold okDrawnD at h
  simp only [List.all_eq_true, List.mem_range, Bool.and_eq_true, Bool.or_eq_true, Bool.not_eq_true', decide_eq_true_eq] at h
  obtain ⟨h1, h2⟩ := h i hi
  refine ⟨fun e he hb => ?_, fun j hj => ?_⟩
  · rcases h1 e (by simpa using he) with h1 | h1
    · rw [hb] at h1; cases h1
    · exact h1
  · rcases h2 j hj with h2 | h2
    · exact .inl h2
    · right
      exact befs_ok (ops := rg.ops) (l := rg.ops.toList) (acc := []) (fun k o hk => by simpa using hk) (fun i j hj => by simp at hj) i j (by simpa using h2)

/-- The mark of such a region. -/
def dynMark : Nat := 999999
def okRegion2 (N : Nat) (rg : Rg) : Bool := rg.ops.toList.all (okOper N) && decide (makes rg.ops.toList).Nodup && (!rg.drawn || (if rg.loud.contains dynMark then okDrawnD rg && rg.ops.toList.all (fun o => !isAppend o.op || o.guard.isNone) else okDrawn rg))
theorem okRegion_of2 {rg : Rg} (h : okRegion2 N rg = true) (hd : (rg.drawn && rg.loud.contains dynMark) = false) : okRegion N rg = true := by
  unfold okRegion2 at h
  unfold okRegion
  simp only [Bool.and_eq_true, Bool.or_eq_true, Bool.not_eq_true'] at h ⊢
  refine ⟨h.1, ?_⟩
  rcases h.2 with h2 | h2
  · exact .inl h2
  · cases hdr : rg.drawn with
    | false => exact .inl rfl
    | true =>
      rw [hdr, Bool.true_and] at hd
      rw [hd] at h2
      exact .inr (by simpa using h2)
theorem regionD_sound (hm : P.follows .mixedOrders = true) (hN : N ≤ base) {id : Nat} {ops : Array Oper} {lo : List Nat} (hok : okRegion2 N ⟨ops, true, lo⟩ = true) (hlo : lo.contains dynMark = true) {Q : Ex → St → Prop} (hr : Rel w0 S0 own H X N st a w)
    (h : wpLD P ⟨ops, true, lo⟩ ops.toList [] (st.kill (makes ops.toList)) (Q .normal)) : (Code.region id ops true).wp P (RQ w0 S0 own H X N Q) a w := by
  unfold okRegion2 at hok
  simp only [Bool.and_eq_true, decide_eq_true_eq, Bool.or_eq_true, Bool.not_eq_true', List.all_eq_true, hlo, if_true] at hok
  obtain ⟨⟨h1, h2⟩, h3⟩ := hok
  have hd : okDrawnD ⟨ops, true, lo⟩ = true ∧ ∀ o ∈ ops.toList, isAppend o.op = true → o.guard = none := by
    rcases h3 with h3 | h3
    · cases h3
    · exact ⟨h3.1, fun o ho ha => by
        rcases h3.2 o ho with h4 | h4
        · rw [ha] at h4; cases h4
        · simpa using h4⟩
  obtain ⟨hd, hga⟩ := hd
  obtain ⟨tz, e1, e2, _, _, e4⟩ := traced _ _ _ hga h
  have hlen : tz.length = ops.size := by
    have := congrArg List.length e1
    simpa using this
  have hok' : ∀ i < ops.size, okOper N (opAt ops i) = true := fun i hi => h1 _ (by
    have := opAt_some hi
    exact Array.mem_toList_iff.2 (Array.mem_of_getElem? this))
  let tr : Nat → Tr := fun i => ((tz[i]?).map (·.2)).getD (.bad, [], none)
  have hz : ∀ i (hi : i < tz.length), tz[i] = (opAt ops i, tr i) := fun i hi => by
    have h1 : (tz.map (·.1))[i]? = ops.toList[i]? := by rw [e1]
    rw [List.getElem?_map, List.getElem?_eq_getElem hi, Array.getElem?_toList, opAt_some (by omega)] at h1
    simp only [Option.map_some, Option.some.injEq] at h1
    have h2 : tr i = tz[i].2 := by simp only [tr, List.getElem?_eq_getElem hi, Option.map_some, Option.getD_some]
    rw [h2, ← h1]
  have hzm : tz = (List.range ops.size).map fun i => (opAt ops i, tr i) := by
    apply List.ext_getElem
    · simp [hlen]
    · intro i h1 h2
      rw [hz i h1]
      simp
  have hpair : ∀ i < ops.size, (∀ e ∈ (opAt ops i).after, Region.binds .any e = true → e.on < i) ∧ ∀ j < i, PairOK ⟨ops, true, lo⟩ (opAt ops j, tr j) (opAt ops i, tr i) ∨ Before ops j i := fun i hi => by
    obtain ⟨a1, a2⟩ := okDrawnD_inv hd hi
    refine ⟨a1, fun j hj => ?_⟩
    rcases a2 j hj with ((a2 | a2) | a2) | a2
    · exact .inl (.inl a2)
    · left
      right
      left
      refine ⟨a2, ?_⟩
      have := List.pairwise_iff_getElem.1 e4 j i (by omega) (by omega) hj
      rw [hz j (by omega), hz i (by omega)] at this
      exact this.1 a2
    · left
      right
      right
      refine ⟨a2, ?_⟩
      have := List.pairwise_iff_getElem.1 e4 j i (by omega) (by omega) hj
      rw [hz j (by omega), hz i (by omega)] at this
      exact this.2 a2
    · exact .inr a2
  refine wp_region_any hm (drawnD_sound (rg := ⟨ops, true, lo⟩) hN tr hpair (fun st a w hr hq => ⟨st, hr, hq⟩) hok' ops.size (List.range ops.size) _ _ a _ (by simp) List.pairwise_lt_range (fun i hi => List.mem_range.1 hi) (by simp) (fun i hi => ?_) (fun i hi hni => absurd (List.mem_range.2 hi) hni) ((hr.kill (makes ops.toList)).drawn _) ?_ ?_)
  · simp only at hi
    simp [Array.getD_eq_getD_getElem?, hi]
  · show Fresh ((List.range ops.size).map (opAt ops)) _
    rw [← toList_opAt]
    exact fresh_kill h2
  · show RunZ P _ ((List.range ops.size).map fun i => (opAt ops i, tr i)) _ _
    rw [← hzm]
    exact e2
end Cal

/- A calculus of our own: functions that are entered in line: what they write of their caller's objects is seen. No program is named here. -/
set_option linter.unusedSimpArgs false
set_option linter.unusedVariables false
namespace Cal
open Go Go.RowKit

/-- What holds of the one holds of the other. -/
def Weaker (st st' : St) : Prop := ∀ (w0 : World) (S0 : Nat → Prop) (own : List Nat) (H : Nat → Nat × Nat) (X : Nat → Value) (N : Nat) (a : Act) (w : World), Rel w0 S0 own H X N st a w → Rel w0 S0 own H X N st' a w
theorem Weaker.refl (st : St) : Weaker st st := fun _ _ _ _ _ _ _ _ h => h
theorem Weaker.trans {a b c : St} (h : Weaker a b) (k : Weaker b c) : Weaker a c := fun w0 S0 own H X N x w hr => k w0 S0 own H X N x w (h w0 S0 own H X N x w hr)
theorem Weaker.kill (st : St) (ds : List Nat) : Weaker st (st.kill ds) := fun _ _ _ _ _ _ _ _ h => h.kill ds

/-- An operation enters a function, with such arguments. -/
def EntersAt (P : Program) (st : St) (op : Op) (f : FuncId) (vs : List AV) : Prop :=
  ∀ (o : Oper), o.op = op → ∀ (w0 : World) (S0 : Nat → Prop) (own : List Nat) (X : Nat → Value) (N : Nat) (m cap : Id → Nat) (S : Nat → Prop) (a : Act) (w : World), RelAt w0 S0 own X N m cap S st a w →
    ∃ us : List Value, (execOp a.eval o).run P w = .ok (.enter f us.toArray) w ∧ AVreps w S m cap st.ob vs us

def bareAct : Act := { tmps := #[], defers := [] }
/-- The caller's temporaries, put away. -/
def St.push (s : St) : St where
  tm := fun _ => .bad
  ob := s.ob
  gh := fun t => if t % 2 = 0 then s.tm (t / 2) else s.gh (t / 2)
/-- They are taken up again. -/
def St.pop0 (s : St) : St where
  tm := fun t => s.gh (2 * t)
  ob := s.ob
  gh := fun t => s.gh (2 * t + 1)
def St.pop (s : St) (d : Option Nat) (v : AV) : St := s.pop0.put d v
def St.bare (s : St) : St where
  tm := fun _ => .bad
  ob := s.ob
  gh := s.gh
def St.body (s : St) (vs : List AV) : St where
  tm := fun t => vs.getD t .bad
  ob := s.ob
  gh := s.gh

/-- Function f, entered with such arguments where the objects are those of s, returns, and R holds of what comes. -/
def Inl (P : Program) (f : FuncId) (vs : List AV) (s : St) (R : AV → St → Prop) : Prop :=
  ∀ (w0 : World) (S0 : Nat → Prop) (own : List Nat) (H : Nat → Nat × Nat) (X : Nat → Value) (m cap : Id → Nat) (S : Nat → Prop) (w : World) (us : List Value), RelAt w0 S0 own X 0 m cap S s bareAct w → (∀ k, m (base + k, 0) = (H k).1 ∧ cap (base + k, 0) = (H k).2) →
    AVreps w S m cap s.ob vs us → Calls P f us.toArray w fun e w' => ∃ u v s' m' cap' S', e = .returned u ∧ RelAt w0 S0 own X 0 m' cap' S' s' bareAct w' ∧ (∀ k, m' (base + k, 0) = (H k).1 ∧ cap' (base + k, 0) = (H k).2) ∧ AVrep w' S' m' cap' s'.ob v u ∧ R v s'

theorem Inl.mono {P : Program} {f : FuncId} {vs : List AV} {s : St} {R R' : AV → St → Prop} (h : Inl P f vs s R) (hr : ∀ v s', R v s' → R' v s') : Inl P f vs s R' := by
  intro w0 S0 own H X m cap S w us h1 h2 h3
  refine Calls.mono (h w0 S0 own H X m cap S w us h1 h2 h3) fun e w' he => ?_
  obtain ⟨u, v, s', m', cap', S', e1, e2, e3, e4, e5⟩ := he
  exact ⟨u, v, s', m', cap', S', e1, e2, e3, e4, hr v s' e5⟩

/-- A step that is not reckoned but shown. -/
def CallI (P : Program) (d : Option Nat) (op : Op) (st : St) (K : St → Prop) : Prop :=
  ∀ (o : Oper), o.op = op → o.dst = d → ∀ (w0 : World) (S0 : Nat → Prop) (own : List Nat) (H : Nat → Nat × Nat) (X : Nat → Value) (N : Nat) (a : Act) (w : World), Rel w0 S0 own H X N st a w → N ≤ base → (∀ t, d = some t → t < N) →
    ∀ (next : Act → World → Prop) (Q : Exit → Act → World → Prop), (∀ s a' w', Rel w0 S0 own H X N s a' w' → K s → next a' w') → o.wp P a w next Q

/-- A region that is not reckoned but shown, as a whole. -/
def RegI (P : Program) (os1 : List Op1) (st : St) (K : St → Prop) : Prop :=
  ∀ (id : Nat) (ops : Array Oper), comps ops ops.toList = some os1 → ∀ (w0 : World) (S0 : Nat → Prop) (own : List Nat) (H : Nat → Nat × Nat) (X : Nat → Value) (N : Nat) (a : Act) (w : World), Rel w0 S0 own H X N st a w → N ≤ base → (∀ o ∈ ops.toList, okOper N o = true) →
    ∀ Q : Exit → Act → World → Prop, (∀ s a' w', Rel w0 S0 own H X N s a' w' → K s → Q .normal a' w') → (Code.region id ops false).wp P Q a w
theorem RegI.mono {P : Program} {os1 : List Op1} {st : St} {K K' : St → Prop} (h : RegI P os1 st K) (hk : ∀ s, K s → K' s) : RegI P os1 st K' :=
  fun id ops hc w0 S0 own H X N a w hr hN hok Q hn => h id ops hc w0 S0 own H X N a w hr hN hok Q fun s a' w' hr' hs => hn s a' w' hr' (hk s hs)

def CallIG (P : Program) (o : Op1) (st : St) (K : St → Prop) : Prop :=
  match o.g with
  | none => CallI P o.dst o.op st K
  | some (t, want) => andT (wantA want (st.tm t)) fun b => onB b (CallI P o.dst o.op st K) (K (st.put o.dst (.tup [])))

def mk1 (l : List Op1) : List Nat := makes (l.map fun o => { (default : Oper) with dst := o.dst, op := o.op })

/-- A region in the text's order, some of its calls in line. -/
def wpX (P : Program) (lo : List Nat) : List Op1 → St → (St → Prop) → Prop
  | [], st, K => K st
  | o :: l, st, K => stepG P false lo o st (fun s => wpX P lo l s K) ∨ CallIG P o st (fun s => wpX P lo l (s.kill (mk1 l)) K)

theorem CallI.mono {P : Program} {d : Option Nat} {op : Op} {st : St} {K K' : St → Prop} (h : CallI P d op st K) (hk : ∀ s, K s → K' s) : CallI P d op st K' :=
  fun o ho hd w0 S0 own H X N a w hr hN hlt next Q hn => h o ho hd w0 S0 own H X N a w hr hN hlt next Q fun s a' w' hr' hs => hn s a' w' hr' (hk s hs)
theorem CallIG.mono {P : Program} {o : Op1} {st : St} {K K' : St → Prop} (h : CallIG P o st K) (hk : ∀ s, K s → K' s) : CallIG P o st K' := by
  unfold CallIG at *
  split at h
  · exact h.mono hk
  · exact andT_mono h fun b hb => onB_mono hb (fun h1 => h1.mono hk) (hk _)
section
variable {H : Nat → Nat × Nat} {P : Program} {w0 w : World} {S0 S S2 : Nat → Prop} {own : List Nat} {X : Nat → Value} {N : Nat} {m cap : Id → Nat} {st st2 : St} {a : Act} {d : Nat} {rg : Rg} {o : Oper} {v : AV} {f : Eff} {p : Id → Prop}

theorem RelAt.push (h : RelAt w0 S0 own X N m cap S st a w) : RelAt w0 S0 own (fun t => if t % 2 = 0 then a.tmps.getD (t / 2) undef else X (t / 2)) 0 m cap S st.push bareAct w := by
  refine ⟨rfl, rfl, h.after, h.stab, h.base, h.fresh, h.obs, h.mine, h.inj, fun t => ?_, fun t => ?_⟩
  · simp only [St.push]; unfold AVrep; trivial
  · simp only [St.push]
    split
    · exact h.tm _
    · exact h.gh _

theorem RelAt.pop0 {s : St} {m' cap' : Id → Nat} {S' : Nat → Prop} {w' : World} (h : RelAt w0 S0 own X N m cap S st a w) (h' : RelAt w0 S0 own (fun t => if t % 2 = 0 then a.tmps.getD (t / 2) undef else X (t / 2)) 0 m' cap' S' s bareAct w') : RelAt w0 S0 own X N m' cap' S' s.pop0 a w' := by
  refine ⟨h.size, h.defers, h'.after, h'.stab, h'.base, h'.fresh, h'.obs, h'.mine, h'.inj, fun t => ?_, fun t => ?_⟩
  · have := h'.gh (2 * t)
    have e1 : 2 * t % 2 = 0 := by omega
    have e2 : 2 * t / 2 = t := by omega
    simp only [e1, if_true, e2] at this
    exact this
  · have := h'.gh (2 * t + 1)
    have e1 : ¬ (2 * t + 1) % 2 = 0 := by omega
    have e2 : (2 * t + 1) / 2 = t := by omega
    simp only [if_neg e1, e2] at this
    exact this

/-- A call in line. -/
theorem callI_intro {op : Op} {dd : Option Nat} {K : St → Prop} {st' : St} {f : FuncId} {vs : List AV} (h1 : Weaker st st') (h2 : EntersAt P st' op f vs) (h3 : Inl P f vs st'.push fun v s => K (s.pop dd v)) : CallI P dd op st K := by
  intro o ho hdd w0 S0 own H X N a w h hN hd next Q hk
  subst hdd
  obtain ⟨m, cap, S, hr, hH⟩ := h1 _ _ _ _ _ _ _ _ h
  obtain ⟨us, e1, e2⟩ := h2 o ho _ _ _ _ _ _ _ _ _ _ hr
  unfold Oper.wp
  rw [e1, Oper.upon_enter]
  refine Calls.mono (h3 w0 S0 own H _ m cap S w us hr.push hH e2) fun e w' he => ?_
  obtain ⟨u, v, s', m', cap', S', rfl, k1, k2, k3, k4⟩ := he
  show next (a.put o.dst u) w'
  exact hk _ _ _ ⟨m', cap', S', (hr.pop0 k1).put hd k3, k2⟩ k4
theorem callI_wp {op : Op} (ho : o.op = op) (h : Rel w0 S0 own H X N st a w) (hN : N ≤ base) (hd : ∀ t, o.dst = some t → t < N) {K : St → Prop} (hc : CallI P o.dst op st K) {next : Act → World → Prop} {Q : Exit → Act → World → Prop}
    (hk : ∀ s a' w', Rel w0 S0 own H X N s a' w' → K s → next a' w') : o.wp P a w next Q := hc o ho rfl w0 S0 own H X N a w h hN hd next Q hk

theorem mk1_comps {ops : Array Oper} : ∀ {os : List Oper} {os1 : List Op1}, comps ops os = some os1 → mk1 os1 = makes os
  | [], os1, hc => by unfold comps at hc; cases hc; rfl
  | o :: os, os1, hc => by
    unfold comps at hc
    split at hc
    · rename_i x xs hx hxs
      cases hc
      have ih := mk1_comps hxs
      unfold mk1 at *
      rw [List.map_cons, makes_cons, makes_cons, ih]
      unfold comp1 at hx
      split at hx
      · cases hx; rfl
      · split at hx
        · cases hx; rfl
        · cases hx
    · cases hc

/-- A region in a drawn order, with what is to be shown at its appends. -/
def wpMD (P : Program) (lo : List Nat) : List Op1 → PL → St → (St → Prop) → Prop
  | [], _, st, K => K st
  | o :: l, pend, st, K => oblO o.op (o.dst.getD 0) pend st ∧ stepG P true lo o st fun st' => wpMD P lo l (pendO o.op (o.dst.getD 0) st pend) st' K
theorem stepG_outD {ops : Array Oper} {dr : Bool} {lo : List Nat} {o1 : Op1} (hc : comp1 ops o = some o1) {K : St → Prop} (h : stepG P dr lo o1 st K) : ∃ v f, OutG P ⟨ops, dr, lo⟩ o st v f ∧ K ((st.eff f).put o.dst v) := by
  have : wpL P ⟨ops, dr, lo⟩ [o] st K := by
    refine wpM_wpL (os1 := [o1]) ?_ ?_
    · simp only [comps, hc]
    · unfold wpM; exact stepG_mono h fun s hs => by unfold wpM; exact hs
  obtain ⟨v, f, h1, h2⟩ := wpL_out this
  rw [wpL] at h2
  exact ⟨v, f, h1, h2⟩
theorem wpMD_wpLD {ops : Array Oper} {lo : List Nat} : ∀ {os : List Oper} {os1 : List Op1} {pend : PL} {st : St} {K : St → Prop}, comps ops os = some os1 → wpMD P lo os1 pend st K → wpLD P ⟨ops, true, lo⟩ os pend st K
  | [], os1, pend, st, K, hc, h => by
    unfold comps at hc
    cases hc
    unfold wpMD at h
    unfold wpLD
    exact h
  | o :: os, os1, pend, st, K, hc, h => by
    unfold comps at hc
    split at hc
    · rename_i x xs hx hxs
      cases hc
      unfold wpMD at h
      have hxo : x.op = o.op ∧ x.dst = o.dst := by
        unfold comp1 at hx
        split at hx
        · cases hx; exact ⟨rfl, rfl⟩
        · split at hx
          · cases hx; exact ⟨rfl, rfl⟩
          · cases hx
      obtain ⟨v, f, h1, h2⟩ := stepG_outD hx h.2
      unfold wpLD
      rw [hxo.1, hxo.2] at h
      rw [hxo.1, hxo.2] at h2
      exact ⟨h.1, v, f, h1, wpMD_wpLD hxs h2⟩
    · cases hc
def okCode2 (N : Nat) (lo : Nat → List Nat) : Code → Bool
  | .region id ops dr => okRegion2 N ⟨ops, dr, lo id⟩
  | .seq a b => okCode2 N lo a && okCode2 N lo b
  | .cond _ x y => okCode2 N lo x && okCode2 N lo y
  | .block _ c => okCode2 N lo c
  | .loop c => okCode2 N lo c
  | .scope c => okCode2 N lo c
  | _ => true

theorem stepG_out {ops : Array Oper} {lo : List Nat} {o1 : Op1} (hc : comp1 ops o = some o1) {K : St → Prop} (h : stepG P false lo o1 st K) : ∃ v f, OutG P ⟨ops, false, lo⟩ o st v f ∧ K ((st.eff f).put o.dst v) := by
  have : wpL P ⟨ops, false, lo⟩ [o] st K := by
    refine wpM_wpL (os1 := [o1]) ?_ ?_
    · simp only [comps, hc]
    · unfold wpM; exact stepG_mono h fun s hs => by unfold wpM; exact hs
  obtain ⟨v, f, h1, h2⟩ := wpL_out this
  rw [wpL] at h2
  exact ⟨v, f, h1, h2⟩

/-- In the text's order, with calls in line. -/
theorem textX_sound (hN : N ≤ base) {ops : Array Oper} {lo : List Nat} {Q : Exit → Act → World → Prop} {K : St → Prop} (hQ : ∀ st a w, Rel w0 S0 own H X N st a w → K st → Q .normal a w) :
    ∀ (l : List Nat) (os : List Oper) (os1 : List Op1) (st : St) (a : Act) (w : World), l.map (fun i => ops[i]?) = os.map some → comps ops os = some os1 → (∀ o ∈ os, okOper N o = true) → Rel w0 S0 own H X N st a w → Fresh os st → wpX P lo os1 st K → wpOps P ops Q l a w
  | [], [], os1, st, a, w, _, hc, _, hr, _, h => by
    unfold comps at hc
    cases hc
    exact hQ st a w hr h
  | [], _ :: _, _, _, _, _, h, _, _, _, _, _ => by simp at h
  | _ :: _, [], _, _, _, _, h, _, _, _, _, _ => by simp at h
  | i :: l, o :: os, os1, st, a, w, hl, hc, hok, hr0, hf, h => by
    simp only [List.map_cons, List.cons.injEq] at hl
    unfold comps at hc
    split at hc
    · rename_i x xs hx hxs
      cases hc
      unfold wpX at h
      rw [wpOps_cons]
      rcases h with h | h
      · obtain ⟨m, cap, S, hr, hH⟩ := hr0
        obtain ⟨v, f, h1, h2⟩ := stepG_out hx h
        exact outG_wp (rg := ⟨ops, false, lo⟩) rfl hl.1 hN (hok o (by simp)) hr hH (hf.1 o (by simp)) h1 fun a' w' hr' => textX_sound hN hQ l os xs _ a' w' hl.2 hxs (fun o' ho' => hok o' (by simp [ho'])) hr' (hf.step (hok o (by simp)) h1) h2
      · have hnd := hf.tail.2
        have hrest : ∀ (s : St) (a' : Act) (w' : World), Rel w0 S0 own H X N s a' w' → wpX P lo xs (s.kill (mk1 xs)) K → wpOps P ops Q l a' w' := fun s a' w' hr' hx' => by
          rw [mk1_comps hxs] at hx'
          exact textX_sound hN hQ l os xs _ a' w' hl.2 hxs (fun o' ho' => hok o' (by simp [ho'])) (hr'.kill _) (fresh_kill hnd) hx'
        unfold comp1 at hx
        unfold CallIG at h
        unfold Go.wpOp
        simp only [hl.1]
        obtain ⟨m, cap, S, hr, hH⟩ := hr0
        split at hx
        · rename_i hg
          cases hx
          have hg' : guardA st ops o.guard = some true := by rw [hg]; rfl
          rw [guard_rel hr hg']
          simp only [if_true]
          exact .inl (callI_wp rfl ⟨m, cap, S, hr, hH⟩ hN (fun t ht => okOper_lt (hok o (by simp)) ht) h hrest)
        · rename_i j want hg
          split at hx
          · rename_i t ht
            cases hx
            obtain ⟨b, hb, h⟩ := h
            have hg' : guardA st ops o.guard = some b := by
              rw [hg]
              simp only [guardA, ht, Option.map_some]
              unfold wantA at hb
              split at hb
              · rename_i b' hb'
                rw [hb']
                exact hb
              · rename_i hb'
                rw [hb']
                exact hb
              · cases hb
            rw [guard_rel hr hg']
            cases b with
            | true =>
              rw [onB_true] at h
              simp only [if_true]
              exact .inl (callI_wp rfl ⟨m, cap, S, hr, hH⟩ hN (fun t ht => okOper_lt (hok o (by simp)) ht) h hrest)
            | false =>
              rw [onB_false] at h
              simp only [Bool.false_eq_true, if_false]
              have hp := hr.put (v := .tup []) (u := .tuple #[]) (fun t ht => okOper_lt (hok o (by simp)) ht) (by unfold AVrep; exact ⟨[], rfl, by unfold AVreps; rfl⟩)
              exact hrest _ _ _ ⟨m, cap, S, hp, hH⟩ h
          · cases hx
    · cases hc

theorem regionX_sound (hN : N ≤ base) {id : Nat} {ops : Array Oper} {lo : List Nat} (hok : okRegion2 N ⟨ops, false, lo⟩ = true) {Q : Ex → St → Prop} (hr : Rel w0 S0 own H X N st a w) {os1 : List Op1} (ho : comps ops ops.toList = some os1)
    (h : wpX P lo os1 (st.kill (makes ops.toList)) (Q .normal)) : (Code.region id ops false).wp P (RQ w0 S0 own H X N Q) a w := by
  unfold okRegion2 at hok
  simp only [Bool.and_eq_true, decide_eq_true_eq, Bool.or_eq_true, Bool.not_eq_true', List.all_eq_true] at hok
  obtain ⟨⟨h1, h2⟩, _⟩ := hok
  refine wp_region (textX_sound hN (fun st a w hr hq => ⟨st, hr, hq⟩) (List.range ops.size) ops.toList os1 _ a w ?_ ho h1 (hr.kill _) (fresh_kill h2) h)
  rw [toList_opAt ops, List.map_map]
  exact List.map_congr_left fun i hi => opAt_some (List.mem_range.1 hi)
end
end Cal

/- A calculus of our own, thirty-third part: objects under other names; code with such steps ahead of its regions. No program is named here. -/
set_option linter.unusedSimpArgs false
set_option linter.unusedVariables false
namespace Cal
open Go Go.RowKit

/-! ### other names -/
mutual
def AV.renG (r : Id → Id) : AV → AV
  | .row id sz i n => .row (r id) sz i n
  | .ptr id i j => .ptr (r id) i j
  | .agg cs => .agg (AV.rensG r cs)
  | .tup cs => .tup (AV.rensG r cs)
  | .mp id => .mp (r id)
  | .clo f xs ys => .clo f (AV.rensG r xs) (AV.rensG r ys)
  | .ifc ty x => .ifc ty (x.renG r)
  | v => v
def AV.rensG (r : Id → Id) : List AV → List AV
  | [] => []
  | v :: vs => v.renG r :: AV.rensG r vs
end
def Ob.renG (r : Id → Id) : Ob → Ob
  | .var cs => .var (AV.rensG r cs)
  | .big sz es => .big sz (es.map (AV.rensG r))
  | .map kd kvs => .map kd (kvs.map fun p => (p.1, p.2.renG r))
  | o => o
def St.renG (r : Id → Id) (inv : Id → Option Id) (s : St) : St where
  tm := fun t => (s.tm t).renG r
  gh := fun t => (s.gh t).renG r
  ob := fun id => (inv id).bind fun i => (s.ob i).map (Ob.renG r)

theorem rensG_length (r : Id → Id) : ∀ vs : List AV, (AV.rensG r vs).length = vs.length
  | [] => rfl
  | v :: vs => by simp [AV.rensG, rensG_length r vs]
theorem rensG_append (r : Id → Id) : ∀ vs ws : List AV, AV.rensG r (vs ++ ws) = AV.rensG r vs ++ AV.rensG r ws
  | [], ws => by simp [AV.rensG]
  | v :: vs, ws => by simp only [List.cons_append, AV.rensG]; rw [rensG_append r vs ws]
theorem rensG_flatten (r : Id → Id) : ∀ es : List (List AV), AV.rensG r es.flatten = (es.map (AV.rensG r)).flatten
  | [] => by simp [AV.rensG]
  | e :: es => by simp only [List.flatten_cons, List.map_cons]; rw [rensG_append, rensG_flatten r es]
theorem rensG_map (r : Id → Id) : ∀ kvs : List (MK × AV), AV.rensG r (kvs.map (·.2)) = (kvs.map fun p => (p.1, p.2.renG r)).map (·.2)
  | [] => by simp [AV.rensG]
  | p :: kvs => by simp only [List.map_cons, AV.rensG]; rw [rensG_map r kvs]
theorem renG_ext (r : Id → Id) (o : Ob) : (o.renG r).ext = o.ext ∧ (o.renG r).shape = o.shape := by
  cases o <;> simp [Ob.renG, Ob.ext, Ob.shape, rensG_length]
theorem bind_ext_map (r : Id → Id) (o : Option Ob) : (o.map (Ob.renG r)).bind Ob.ext = o.bind Ob.ext := by
  cases o with
  | none => rfl
  | some o => exact (renG_ext r o).1
theorem map_renG_var {r : Id → Id} {o : Option Ob} {cs : List AV} (h : o.map (Ob.renG r) = some (.var cs)) : ∃ cs', o = some (.var cs') := by
  cases o with
  | none => cases h
  | some o => cases o <;> simp [Ob.renG] at h <;> simp

/-- Names that may be given: those that q has not are told apart, and named back. -/
structure Naming (q : Id → Prop) (r : Id → Id) (inv : Id → Option Id) : Prop where
  back : ∀ id, ¬ q id → inv (r id) = some id
  forth : ∀ id i, inv id = some i → ¬ q i → id = r i

mutual
theorem renG_rep {w : World} {S : Nat → Prop} {m cap m' cap' : Id → Nat} {s : St} {q : Id → Prop} {r : Id → Id} {inv : Id → Option Id} (hn : Naming q r inv) (hm : ∀ id : Id, ¬ q id → m' (r id) = m id ∧ cap' (r id) = cap id) :
    ∀ (v : AV) (u : Value), v.free q → AVrep w S m cap s.ob v u → AVrep w S m' cap' (s.renG r inv).ob (v.renG r) u
  | .t x, u, _, h => by
    unfold AV.renG
    unfold AVrep at *
    exact h
  | .row id sz i n, u, hv, h => by
    unfold AV.free at hv
    unfold AV.renG
    have hob : (s.renG r inv).ob (r id) = (s.ob id).map (Ob.renG r) := by simp only [St.renG, hn.back id hv, Option.bind_some]
    unfold AVrep at *
    obtain ⟨A, c, h1, h2, h3, h4, h5, h6⟩ := h
    obtain ⟨e1, e2⟩ := hm id hv
    refine ⟨A, c, h1, h2, h3, h4, fun o ho => ?_, fun sz' l hes => ?_⟩
    · rw [hob] at ho
      cases ho2 : s.ob id with
      | none => rw [ho2] at ho; cases ho
      | some o' =>
        rw [ho2] at ho
        simp only [Option.map_some, Option.some.injEq] at ho
        subst ho
        rw [(renG_ext r o').1]
        exact h5 o' ho2
    · rw [hob, bind_ext_map] at hes
      rw [e1, e2]
      exact h6 sz' l hes
  | .ptr id i j, u, hv, h => by
    unfold AV.free at hv
    unfold AV.renG
    have hob : (s.renG r inv).ob (r id) = (s.ob id).map (Ob.renG r) := by simp only [St.renG, hn.back id hv, Option.bind_some]
    unfold AVrep at *
    obtain ⟨a, h1, h2, h3⟩ := h
    obtain ⟨e1, e2⟩ := hm id hv
    refine ⟨a, h1, fun cs hcs hi => ?_, fun sz l hes hi => ?_⟩
    · rw [hob] at hcs
      obtain ⟨cs', k⟩ := map_renG_var hcs
      rw [e1]
      exact h2 cs' k hi
    · rw [hob, bind_ext_map] at hes
      rw [e1]
      exact h3 sz l hes hi
  | .roptr cs, u, _, h => by
    unfold AV.renG
    unfold AVrep at *
    exact h
  | .full cs, u, _, h => by
    unfold AV.renG
    unfold AVrep at *
    exact h
  | .agg cs, u, hv, h => by
    unfold AV.free at hv
    unfold AV.renG
    unfold AVrep at *
    obtain ⟨us, h1, h2⟩ := h
    exact ⟨us, h1, rensG_rep hn hm cs us hv h2⟩
  | .tup cs, u, hv, h => by
    unfold AV.free at hv
    unfold AV.renG
    unfold AVrep at *
    obtain ⟨us, h1, h2⟩ := h
    exact ⟨us, h1, rensG_rep hn hm cs us hv h2⟩
  | .bad, u, _, _ => by unfold AV.renG AVrep; trivial
  | .mp id, u, hv, h => by
    unfold AV.free at hv
    unfold AV.renG
    have hob : (s.renG r inv).ob (r id) = (s.ob id).map (Ob.renG r) := by simp only [St.renG, hn.back id hv, Option.bind_some]
    unfold AVrep at *
    obtain ⟨b, h1, h2⟩ := h
    refine ⟨b, h1, fun hne => ?_⟩
    rw [(hm id hv).1]
    refine h2 fun e => hne ?_
    rw [hob, e]
    rfl
  | .clo f xs ys, u, hv, h => by
    unfold AV.free at hv
    unfold AV.renG
    unfold AVrep at *
    obtain ⟨us, vs, h1, h2, h3⟩ := h
    exact ⟨us, vs, h1, rensG_rep hn hm xs us hv.1 h2, rensG_rep hn hm ys vs hv.2 h3⟩
  | .ifc ty x, u, hv, h => by
    unfold AV.free at hv
    unfold AV.renG
    unfold AVrep at *
    obtain ⟨y, h1, h2⟩ := h
    exact ⟨y, h1, renG_rep hn hm x y hv h2⟩
theorem rensG_rep {w : World} {S : Nat → Prop} {m cap m' cap' : Id → Nat} {s : St} {q : Id → Prop} {r : Id → Id} {inv : Id → Option Id} (hn : Naming q r inv) (hm : ∀ id : Id, ¬ q id → m' (r id) = m id ∧ cap' (r id) = cap id) :
    ∀ (vs : List AV) (us : List Value), AV.frees q vs → AVreps w S m cap s.ob vs us → AVreps w S m' cap' (s.renG r inv).ob (AV.rensG r vs) us
  | [], us, _, h => by
    unfold AV.rensG
    unfold AVreps at *
    exact h
  | v :: vs, us, hv, h => by
    unfold AV.frees at hv
    unfold AV.rensG
    unfold AVreps at *
    obtain ⟨u, us', h1, h2, h3⟩ := h
    exact ⟨u, us', h1, renG_rep hn hm v u hv.1 h2, rensG_rep hn hm vs us' hv.2 h3⟩
end

def renM (inv : Id → Option Id) (m : Id → Nat) : Id → Nat := fun id => match inv id with
  | some i => m i
  | none => m id

theorem RelAt.renG {w0 w : World} {S0 S : Nat → Prop} {own : List Nat} {X : Nat → Value} {N : Nat} {m cap : Id → Nat} {s : St} {a : Act} {q : Id → Prop} {r : Id → Id} {inv : Id → Option Id} (hn : Naming q r inv) (h : RelAt w0 S0 own X N m cap S s a w) (hf : s.Free q) :
    RelAt w0 S0 own X N (renM inv m) (renM inv cap) S (s.renG r inv) a w := by
  have hm : ∀ id : Id, ¬ q id → renM inv m (r id) = m id ∧ renM inv cap (r id) = cap id := fun id hid => by simp [renM, hn.back id hid]
  have back : ∀ id o, (s.renG r inv).ob id = some o → ∃ id0 o0, s.ob id0 = some o0 ∧ ¬ q id0 ∧ id = r id0 ∧ o = o0.renG r := fun id o ho => by
    simp only [St.renG] at ho
    cases hi : inv id with
    | none => rw [hi] at ho; cases ho
    | some i =>
      rw [hi] at ho
      simp only [Option.bind_some] at ho
      cases hob : s.ob i with
      | none => rw [hob] at ho; cases ho
      | some o0 =>
        rw [hob] at ho
        have hq : ¬ q i := fun hq => by rw [hf.none i hq] at hob; cases hob
        exact ⟨i, o0, hob, hq, hn.forth id i hi hq, by simpa using ho.symm⟩
  refine ⟨h.size, h.defers, h.after, h.stab, h.base, h.fresh, fun id o ho => ?_, fun id o ho => ?_, fun id id' h1 h2 he => ?_, fun t => ?_, fun t => ?_⟩
  · obtain ⟨id0, o0, h0, h1, rfl, rfl⟩ := back id o ho
    have hob := h.obs id0 o0 h0
    have hav := hf.avs id0 o0 h0
    obtain ⟨e1, e2⟩ := hm id0 h1
    cases o0 with
    | var cs =>
      obtain ⟨⟨arr, ty, k1, k2⟩, k3⟩ := hob
      refine ⟨⟨arr, ty, ?_, ?_⟩, ?_⟩
      · rw [e1]; exact k1
      · exact rensG_rep hn hm cs _ hav k2
      · rw [e1]; exact k3
    | row sz es =>
      obtain ⟨k1, k3⟩ := hob
      unfold Ob.renG ObRep
      rw [e1, e2]
      exact ⟨k1, k3⟩
    | frz sz es =>
      obtain ⟨k1, k3⟩ := hob
      unfold Ob.renG ObRep
      rw [e1, e2]
      exact ⟨k1, k3⟩
    | big sz es =>
      obtain ⟨⟨⟨arr, ty, k1, k2, k3, k3'⟩, k4, k5, k6⟩, k7⟩ := hob
      unfold Ob.renG ObRep
      rw [e1, e2]
      refine ⟨⟨⟨arr, ty, k1, k2, ?_, by rw [List.length_map]; exact k3'⟩, fun e he => ?_, by simpa using k5, k6⟩, k7⟩
      · rw [List.length_map, ← rensG_flatten]
        exact rensG_rep hn hm _ _ hav k3
      · obtain ⟨e', he', rfl⟩ := List.mem_map.1 he
        rw [rensG_length]
        exact k4 e' he'
    | map kd kvs =>
      obtain ⟨⟨us, k1, k2⟩, k3⟩ := hob
      unfold Ob.renG ObRep
      rw [e1]
      refine ⟨⟨us, by rw [List.map_map]; exact k1, ?_⟩, k3⟩
      rw [← rensG_map]
      exact rensG_rep hn hm _ _ hav k2
    | fmap kd kvs =>
      unfold Ob.renG ObRep
      rw [e1]
      exact hob
  · obtain ⟨id0, o0, h0, h1, rfl, rfl⟩ := back id o ho
    rw [(hm id0 h1).1]
    exact h.mine id0 o0 h0
  · obtain ⟨o1, h1⟩ := Option.ne_none_iff_exists'.1 h1
    obtain ⟨o2, h2⟩ := Option.ne_none_iff_exists'.1 h2
    obtain ⟨i1, p1, q1, q2, rfl, _⟩ := back id o1 h1
    obtain ⟨i2, p2, q3, q4, rfl, _⟩ := back id' o2 h2
    rw [(hm i1 q2).1, (hm i2 q4).1] at he
    rw [h.inj i1 i2 (by rw [q1]; simp) (by rw [q3]; simp) he]
  · exact renG_rep hn hm _ _ (hf.tm t) (h.tm t)
  · exact renG_rep hn hm _ _ (hf.gh t) (h.gh t)

/-- All the objects that were made at one place, under another place's names. -/
def renI (d e : Nat) (id : Id) : Id := if id.1 = d then (e, id.2) else id
def invI (d e : Nat) (id : Id) : Option Id := if id.1 = e then some (d, id.2) else if id.1 = d then none else some id
@[reducible] def AV.ren (d e : Nat) (v : AV) : AV := v.renG (renI d e)
@[reducible] def AV.rens (d e : Nat) (vs : List AV) : List AV := AV.rensG (renI d e) vs
@[reducible] def Ob.ren (d e : Nat) (o : Ob) : Ob := o.renG (renI d e)
@[reducible] def St.ren (d e : Nat) (s : St) : St := s.renG (renI d e) (invI d e)
theorem naming_I {d e : Nat} (hde : d ≠ e) : Naming (·.1 = e) (renI d e) (invI d e) where
  back := fun id hid => by
    obtain ⟨a, b⟩ := id
    simp only at hid
    unfold renI invI
    by_cases h : a = d
    · simp [h]
    · simp [h, hid]
  forth := fun id i h hi => by
    obtain ⟨a, b⟩ := id
    unfold invI at h
    unfold renI
    simp only at h
    split at h
    · cases h; simp_all
    · split at h
      · cases h
      · cases h; simp_all

/-- An object under another name. -/
theorem Weaker.ren (st : St) (d e : Nat) (hde : d ≠ e) (hd : d < base) (he : e < base) : Weaker st ((st.kill [e]).ren d e) := by
  intro w0 S0 own H X N a w ⟨m, cap, S, h, hH⟩
  have hf : (st.kill [e]).Free (·.1 = e) := (St.kill_free st [e]).mono fun id hid => by simp [hid]
  refine ⟨_, _, S, RelAt.renG (naming_I hde) (h.kill [e]) hf, fun k => ?_⟩
  have h1 : base + k ≠ e := by omega
  have h2 : base + k ≠ d := by omega
  simp only [renM, invI, if_neg h1, if_neg h2]
  exact hH k

/-! ### one name is forgotten -/
mutual
def AV.kill1 (q : Id) : AV → AV
  | .row id sz i n => if id = q then .bad else .row id sz i n
  | .ptr id i j => if id = q then .bad else .ptr id i j
  | .agg cs => .agg (AV.kills1 q cs)
  | .tup cs => .tup (AV.kills1 q cs)
  | .mp id => if id = q then .bad else .mp id
  | .clo f xs ys => .clo f (AV.kills1 q xs) (AV.kills1 q ys)
  | .ifc ty x => .ifc ty (x.kill1 q)
  | v => v
def AV.kills1 (q : Id) : List AV → List AV
  | [] => []
  | v :: vs => v.kill1 q :: AV.kills1 q vs
end
def Ob.kill1 (q : Id) : Ob → Ob
  | .var cs => .var (AV.kills1 q cs)
  | .big sz es => .big sz (es.map (AV.kills1 q))
  | .map kd kvs => .map kd (kvs.map fun p => (p.1, p.2.kill1 q))
  | o => o
def St.kill1 (s : St) (q : Id) : St := { tm := fun t => (s.tm t).kill1 q, gh := fun t => (s.gh t).kill1 q, ob := fun id => if id = q then none else (s.ob id).map (Ob.kill1 q) }
mutual
theorem AV.kill1_free (q : Id) : ∀ v : AV, (v.kill1 q).free (· = q)
  | .t _ => by unfold AV.kill1; trivial
  | .row id sz i n => by
    unfold AV.kill1
    split
    · trivial
    · unfold AV.free; assumption
  | .ptr id i j => by
    unfold AV.kill1
    split
    · trivial
    · unfold AV.free; assumption
  | .roptr _ => by unfold AV.kill1; trivial
  | .full _ => by unfold AV.kill1; trivial
  | .agg cs => by unfold AV.kill1 AV.free; exact AV.kills1_free q cs
  | .tup cs => by unfold AV.kill1 AV.free; exact AV.kills1_free q cs
  | .bad => by unfold AV.kill1; trivial
  | .mp id => by
    unfold AV.kill1
    split
    · trivial
    · unfold AV.free; assumption
  | .clo _ xs ys => by unfold AV.kill1 AV.free; exact ⟨AV.kills1_free q xs, AV.kills1_free q ys⟩
  | .ifc _ x => by unfold AV.kill1 AV.free; exact AV.kill1_free q x
theorem AV.kills1_free (q : Id) : ∀ vs : List AV, AV.frees (· = q) (AV.kills1 q vs)
  | [] => by unfold AV.kills1; trivial
  | v :: vs => by unfold AV.kills1 AV.frees; exact ⟨AV.kill1_free q v, AV.kills1_free q vs⟩
end
mutual
theorem AV.kill1_rep {w : World} {S : Nat → Prop} {m cap : Id → Nat} {ob : Id → Option Ob} (q : Id) : ∀ (v : AV) (u : Value), AVrep w S m cap ob v u → AVrep w S m cap ob (v.kill1 q) u
  | .t _, u, h => by unfold AV.kill1; exact h
  | .row id sz i n, u, h => by
    unfold AV.kill1
    split
    · unfold AVrep; trivial
    · exact h
  | .ptr id i j, u, h => by
    unfold AV.kill1
    split
    · unfold AVrep; trivial
    · exact h
  | .roptr _, u, h => by unfold AV.kill1; exact h
  | .full _, u, h => by unfold AV.kill1; exact h
  | .agg cs, u, h => by
    unfold AV.kill1 AVrep at *
    obtain ⟨us, h1, h2⟩ := h
    exact ⟨us, h1, AV.kills1_rep q cs us h2⟩
  | .tup cs, u, h => by
    unfold AV.kill1 AVrep at *
    obtain ⟨us, h1, h2⟩ := h
    exact ⟨us, h1, AV.kills1_rep q cs us h2⟩
  | .bad, u, h => by unfold AV.kill1; exact h
  | .mp id, u, h => by
    unfold AV.kill1
    split
    · unfold AVrep; trivial
    · exact h
  | .clo _ xs ys, u, h => by
    unfold AV.kill1 AVrep at *
    obtain ⟨us, vs, h1, h2, h3⟩ := h
    exact ⟨us, vs, h1, AV.kills1_rep q xs us h2, AV.kills1_rep q ys vs h3⟩
  | .ifc _ x, u, h => by
    unfold AV.kill1 AVrep at *
    obtain ⟨y, h1, h2⟩ := h
    exact ⟨y, h1, AV.kill1_rep q x y h2⟩
theorem AV.kills1_rep {w : World} {S : Nat → Prop} {m cap : Id → Nat} {ob : Id → Option Ob} (q : Id) : ∀ (vs : List AV) (us : List Value), AVreps w S m cap ob vs us → AVreps w S m cap ob (AV.kills1 q vs) us
  | [], us, h => by unfold AV.kills1; exact h
  | v :: vs, us, h => by
    unfold AV.kills1 AVreps at *
    obtain ⟨u, us', h1, h2, h3⟩ := h
    exact ⟨u, us', h1, AV.kill1_rep q v u h2, AV.kills1_rep q vs us' h3⟩
end
theorem kills1_length (q : Id) : ∀ vs : List AV, (AV.kills1 q vs).length = vs.length
  | [] => rfl
  | v :: vs => by simp [AV.kills1, kills1_length q vs]
theorem kills1_append (q : Id) : ∀ vs ws : List AV, AV.kills1 q (vs ++ ws) = AV.kills1 q vs ++ AV.kills1 q ws
  | [], ws => by simp [AV.kills1]
  | v :: vs, ws => by simp only [List.cons_append, AV.kills1]; rw [kills1_append q vs ws]
theorem kills1_flatten (q : Id) : ∀ es : List (List AV), AV.kills1 q es.flatten = (es.map (AV.kills1 q)).flatten
  | [] => by simp [AV.kills1]
  | e :: es => by simp only [List.flatten_cons, List.map_cons]; rw [kills1_append, kills1_flatten q es]
theorem kills1_map (q : Id) : ∀ kvs : List (MK × AV), AV.kills1 q (kvs.map (·.2)) = (kvs.map fun p => (p.1, p.2.kill1 q)).map (·.2)
  | [] => by simp [AV.kills1]
  | p :: kvs => by simp only [List.map_cons, AV.kills1]; rw [kills1_map q kvs]
theorem Ob.kill1_avs (q : Id) (o : Ob) : (o.kill1 q).avs = AV.kills1 q o.avs := by
  cases o with
  | var cs => rfl
  | row sz es => simp [Ob.kill1, Ob.avs, AV.kills1]
  | frz sz es => simp [Ob.kill1, Ob.avs, AV.kills1]
  | big sz es => simp only [Ob.kill1, Ob.avs]; rw [kills1_flatten]
  | map kd kvs => simp only [Ob.kill1, Ob.avs]; rw [kills1_map]
  | fmap kd kvs => simp [Ob.kill1, Ob.avs, AV.kills1]
theorem Ob.kill1_shape (q : Id) (o : Ob) : (o.kill1 q).shape = o.shape ∧ (o.kill1 q).cold = o.cold := by
  cases o <;> simp [Ob.kill1, Ob.shape, Ob.cold, kills1_length]
theorem St.kill1_free (s : St) (q : Id) : (s.kill1 q).Free (· = q) := by
  refine ⟨fun t => AV.kill1_free q _, fun t => AV.kill1_free q _, fun id o hc => ?_, fun id hid => by simp [St.kill1, hid]⟩
  simp only [St.kill1] at hc
  split at hc
  · cases hc
  · cases ho : s.ob id with
    | none => rw [ho] at hc; cases hc
    | some o1 =>
      rw [ho] at hc
      simp only [Option.map_some, Option.some.injEq] at hc
      subst hc
      rw [Ob.kill1_avs]
      exact AV.kills1_free q _
theorem RelAt.kill1 {w0 w : World} {S0 S : Nat → Prop} {own : List Nat} {X : Nat → Value} {N : Nat} {m cap : Id → Nat} {st : St} {a : Act} (h : RelAt w0 S0 own X N m cap S st a w) (q : Id) : RelAt w0 S0 own X N m cap S (st.kill1 q) a w := by
  have ht : Turn (fun _ => False) m m cap cap st.ob (st.kill1 q).ob := by
    refine ⟨fun i _ => ?_, fun i _ => ⟨rfl, rfl⟩⟩
    simp only [St.kill1]
    split
    · exact Ob.leads_none _
    · cases st.ob i with
      | none => trivial
      | some o =>
        obtain ⟨e1, e2⟩ := Ob.kill1_shape q o
        exact ⟨e1.symm, fun hc => by rw [e2]; exact hc⟩
  have hlive : ∀ i o', (st.kill1 q).ob i = some o' → ∃ o, st.ob i = some o ∧ o' = o.kill1 q := fun i o' hi => by
    simp only [St.kill1] at hi
    split at hi
    · cases hi
    · cases ho : st.ob i with
      | none => rw [ho] at hi; cases hi
      | some o =>
        rw [ho] at hi
        simp only [Option.map_some, Option.some.injEq] at hi
        exact ⟨o, rfl, hi.symm⟩
  refine ⟨h.size, h.defers, h.after, h.stab, h.base, h.fresh, fun i o' hi => ?_, fun i o' hi => ?_, fun i j hi hj he => ?_, fun t => ?_, fun t => ?_⟩
  · obtain ⟨o, ho, rfl⟩ := hlive i o' hi
    have := (h.obs i o ho).keep (Same.refl _ _) (fun _ hb => hb) ht (fun hx => hx) (AV.frees_false _) rfl (fun hx => hx)
    cases o with
    | var cs =>
      obtain ⟨⟨arr, ty, h1, h2⟩, h4⟩ := this
      exact ⟨⟨arr, ty, h1, AV.kills1_rep q cs _ h2⟩, h4⟩
    | row sz es => exact this
    | frz sz es => exact this
    | big sz es =>
      obtain ⟨⟨⟨arr, ty, h1, h2, h3, h3'⟩, h4, h5, h6⟩, h7⟩ := this
      refine ⟨⟨⟨arr, ty, h1, h2, ?_, by rw [List.length_map]; exact h3'⟩, fun e he => ?_, by simpa using h5, h6⟩, h7⟩
      · rw [List.length_map, ← kills1_flatten]
        exact AV.kills1_rep q _ _ h3
      · obtain ⟨e', he', rfl⟩ := List.mem_map.1 he
        rw [kills1_length]
        exact h4 e' he'
    | map kd kvs =>
      obtain ⟨⟨us, h1, h2⟩, h3⟩ := this
      refine ⟨⟨us, ?_, ?_⟩, h3⟩
      · rw [List.map_map]; exact h1
      · rw [← kills1_map]
        exact AV.kills1_rep q _ _ h2
    | fmap kd kvs => exact this
  · obtain ⟨o, ho, _⟩ := hlive i o' hi
    exact h.mine i o ho
  · obtain ⟨o1, h1⟩ := Option.ne_none_iff_exists'.1 hi
    obtain ⟨o2, h2⟩ := Option.ne_none_iff_exists'.1 hj
    obtain ⟨_, k1, _⟩ := hlive i o1 h1
    obtain ⟨_, k2, _⟩ := hlive j o2 h2
    exact h.inj i j (by rw [k1]; simp) (by rw [k2]; simp) he
  · exact AVrep.keep (Same.refl _ _) (fun _ hb => hb) ht _ _ (AV.free_false _) (AV.kill1_rep q _ _ (h.tm t))
  · exact AVrep.keep (Same.refl _ _) (fun _ hb => hb) ht _ _ (AV.free_false _) (AV.kill1_rep q _ _ (h.gh t))

def ren1 (p q : Id) (id : Id) : Id := if id = p then q else id
def inv1 (p q : Id) (id : Id) : Option Id := if id = q then some p else if id = p then none else some id
theorem naming_1 {p q : Id} (hpq : p ≠ q) : Naming (· = q) (ren1 p q) (inv1 p q) where
  back := fun id hid => by
    unfold ren1 inv1
    by_cases h : id = p
    · simp [h]
    · simp only [if_neg h, if_neg hid]
  forth := fun id i h hi => by
    unfold inv1 at h
    unfold ren1
    split at h
    · cases h; simp_all
    · split at h
      · cases h
      · cases h; simp_all
/-- One object under another name, which is forgotten first. -/
theorem Weaker.ren1 (st : St) (p q : Id) (hpq : p ≠ q) (hp : p.1 < base) (hq : q.1 < base) : Weaker st ((st.kill1 q).renG (ren1 p q) (inv1 p q)) := by
  intro w0 S0 own H X N a w ⟨m, cap, S, h, hH⟩
  refine ⟨_, _, S, RelAt.renG (naming_1 hpq) (h.kill1 q) (St.kill1_free st q), fun k => ?_⟩
  have h1 : (base + k, 0) ≠ q := fun e => by rw [← e] at hq; simp at hq; omega
  have h2 : (base + k, 0) ≠ p := fun e => by rw [← e] at hp; simp at hp; omega
  simp only [renM, inv1, if_neg h1, if_neg h2]
  exact hH k

/-! ### rows of values, and rows of names -/
/-- A row whose cells are taken for names. -/
theorem Weaker.big (st : St) (id : Id) {sz : Nat} {es : List (List T)} (ho : st.ob id = some (.row sz es)) : Weaker st (st.setOb id (some (.big sz (es.map fun e => e.map .t)))) := by
  intro w0 S0 own H X N a w ⟨m, cap, S, h, hH⟩
  refine ⟨m, cap, S, ?_, hH⟩
  obtain ⟨⟨⟨arr, ty, k1, k2⟩, k3, k4, k5⟩, k6⟩ := h.obs id _ ho
  refine h.wrote (w' := w) ho k6 ⟨by simp [Ob.shape], fun h => by cases h⟩ (fun _ _ => rfl) rfl rfl rfl rfl ?_
  obtain ⟨us, g1, g2, g3, g4, g5⟩ := k5.vals (m := m) (cap := cap) (ob := (st.setOb id (some (.big sz (es.map fun e => e.map .t)))).ob)
  have hle : es.length * sz ≤ cap id * sz := Nat.mul_le_mul_right _ k3
  have hus : arr.toList.take (es.length * sz) = us := by
    apply List.ext_getElem?
    intro j
    by_cases hj : j < us.length
    · obtain ⟨u, hu⟩ : ∃ u, us[j]? = some u := ⟨_, List.getElem?_eq_getElem hj⟩
      have := g2 j u hu
      unfold World.cell? at this
      simp only [k1, Nat.zero_add] at this
      rw [List.getElem?_take, if_pos (by omega), hu, Array.getElem?_toList]
      simpa using this
    · have hal : arr.toList.length = cap id * sz := by rw [Array.length_toList]; exact k2
      rw [List.getElem?_eq_none (l := us) (by omega), List.getElem?_eq_none]
      rw [List.length_take, hal]
      omega
  have hlen : (es.map fun e => e.map AV.t).length = es.length := List.length_map ..
  refine ⟨⟨⟨arr, ty, k1, k2, by rw [hlen, hus]; exact g4, by rw [hlen, hus]; exact g3⟩, fun e he => ?_, by rw [hlen]; exact k3, k4⟩, k6⟩
  obtain ⟨e', he', rfl⟩ := List.mem_map.1 he
  rw [List.length_map]
  exact g5 e' he'

/-- A row whose cells' rows are no longer written. -/
theorem Weaker.row (st : St) (id : Id) {sz : Nat} {es : List (List AV)} {xs : List (List T)} (ho : st.ob id = some (.big sz es)) (hx : st.toTss es = some xs) (hno : noRow id es.flatten = true) : Weaker st ((st.eff (st.frzEffs es.flatten)).setOb id (some (.row sz xs))) := by
  intro w0 S0 own H X N a w ⟨m, cap, S, h, hH⟩
  obtain ⟨t1, t2, t3⟩ := toTss_some hx
  obtain ⟨u1, u2, u3⟩ := toTs_some t2
  obtain ⟨S', z1, z2, z3, z4⟩ := freeze_all h (s0 := st) es.flatten (Froze.refl _) u2
  refine ⟨m, cap, S', ?_, hH⟩
  have ho' : (st.eff (st.frzEffs es.flatten)).ob id = some (.big sz es) := by rw [frz_other hno]; exact ho
  obtain ⟨⟨⟨arr, ty, k1, k2, k3, k3'⟩, k4, k5, k6⟩, k7⟩ := z1.obs id _ ho'
  refine z1.wrote (w' := w) ho' k7 ⟨by simp [Ob.shape, t1], fun h => by cases h⟩ (fun _ _ => rfl) rfl rfl rfl rfl ?_
  have hT := toTs_rep z1 z3 t2 k3 z4
  obtain ⟨p1, p2⟩ := Treps_iff.1 hT
  have hle : es.length * sz ≤ cap id * sz := Nat.mul_le_mul_right _ k5
  have hxl : ∀ x ∈ xs, x.length = sz := fun x hx' => by
    obtain ⟨j, hj⟩ := List.getElem?_of_mem hx'
    have hjl := (List.getElem?_eq_some_iff.1 hj).1
    obtain ⟨e, he⟩ : ∃ e, es[j]? = some e := ⟨_, List.getElem?_eq_getElem (by omega)⟩
    obtain ⟨x', g1, g2⟩ := t3 j e he
    rw [hj] at g1
    cases g1
    rw [(toTs_some g2).1]
    exact k4 e (List.mem_of_getElem? he)
  refine ⟨⟨⟨arr, ty, k1, k2⟩, by rw [t1]; exact k5, k6, ?_⟩, k7⟩
  rw [Ereps_iff]
  intro i e he
  have hel := hxl e (List.mem_of_getElem? he)
  refine ⟨hel, ?_⟩
  rw [Creps_iff]
  intro j x hj
  have hjl := (List.getElem?_eq_some_iff.1 hj).1
  have hil := (List.getElem?_eq_some_iff.1 he).1
  have hf : xs.flatten[i * sz + j]? = some x := by rw [flatten_mem hxl he (by omega)]; exact hj
  have hlt := mul_lt_len (sz := sz) hil
  rw [t1] at hlt
  have hal : i * sz + j < arr.size := by omega
  refine ⟨arr[i * sz + j], ?_, p2 (i * sz + j) x _ hf ?_⟩
  · unfold World.cell?
    simp only [k1, Nat.zero_add]
    simp [Array.getElem?_eq_getElem hal]
  · rw [List.getElem?_take, if_pos (by omega), Array.getElem?_toList, Array.getElem?_eq_getElem hal]

/-! ### code with such steps -/
/-- Two pieces of code that are not reckoned but shown, as a whole. -/
def SeqI (P : Program) (k1 k2 : Code1) (Q : Ex → St → Prop) (st : St) : Prop :=
  ∀ (lo : Nat → List Nat) (x y : Code), comp lo x = some k1 → comp lo y = some k2 → ∀ (w0 : World) (S0 : Nat → Prop) (own : List Nat) (H : Nat → Nat × Nat) (X : Nat → Value) (N : Nat) (a : Act) (w : World), Rel w0 S0 own H X N st a w → N ≤ base → okCode2 N lo x = true → okCode2 N lo y = true → (Code.seq x y).wp P (RQ w0 S0 own H X N Q) a w
theorem RQ_mono {w0 : World} {S0 : Nat → Prop} {own : List Nat} {H : Nat → Nat × Nat} {X : Nat → Value} {N : Nat} {Q Q' : Ex → St → Prop} (hq : ∀ e s, Q e s → Q' e s) : ∀ e a w, RQ w0 S0 own H X N Q e a w → RQ w0 S0 own H X N Q' e a w
  | .normal, _, _, ⟨s, h1, h2⟩ => ⟨s, h1, hq _ _ h2⟩
  | .exit _, _, _, ⟨s, h1, h2⟩ => ⟨s, h1, hq _ _ h2⟩
  | .ret, _, _, ⟨s, h1, h2⟩ => ⟨s, h1, hq _ _ h2⟩
  | .goto _, _, _, h => h
  | .panic _, _, _, h => h
  | .outgrown, _, _, h => h
theorem SeqI.mono {P : Program} {k1 k2 : Code1} {Q Q' : Ex → St → Prop} {st : St} (h : SeqI P k1 k2 Q st) (hq : ∀ e s, Q e s → Q' e s) : SeqI P k1 k2 Q' st :=
  fun lo x y hx hy w0 S0 own H X N a w hr hN h1 h2 => wp_mono (h lo x y hx hy w0 S0 own H X N a w hr hN h1 h2) (RQ_mono hq)
def wp2 (P : Program) : Code1 → (Ex → St → Prop) → St → Prop
  | .skip, Q, st => Q .normal st
  | .region mk dr lo ops, Q, st => ∃ st', Weaker st st' ∧ (((dr && lo.contains dynMark) = false ∧ wpM P dr lo ops (st'.kill mk) (Q .normal)) ∨ (dr = false ∧ (wpX P lo ops (st'.kill mk) (Q .normal) ∨ RegI P ops st' (Q .normal))) ∨ (dr = true ∧ lo.contains dynMark = true ∧ wpMD P lo ops [] (st'.kill mk) (Q .normal)))
  | .seq a b, Q, st => wp2 P a (thenQ (wp2 P b Q) Q) st ∨ SeqI P a b Q st
  | .cond c x y, Q, st => andT (boolA (st.ev c)) fun b => onB b (wp2 P x Q st) (wp2 P y Q st)
  | .block id c, Q, st => wp2 P c (inBlk id Q) st
  | .loop c, Q, st => ∃ (I : St → Prop) (μ : St → Nat), I st ∧ ∀ st, I st → wp2 P c (thenQ (fun st' => I st' ∧ μ st' < μ st) Q) st
  | .exit id, Q, st => Q (.exit id) st
  | .ret, Q, st => Q .ret st

section
variable {P : Program} {w0 w : World} {S0 S : Nat → Prop} {own : List Nat} {H : Nat → Nat × Nat} {X : Nat → Value} {N : Nat} {m cap : Id → Nat} {st : St} {a : Act}

theorem code2_sound (hm : P.follows .mixedOrders = true) (hN : N ≤ base) (lo : Nat → List Nat) : ∀ (c : Code) {k : Code1} {Q : Ex → St → Prop} {st : St} {a : Act} {w : World}, comp lo c = some k → okCode2 N lo c = true → Rel w0 S0 own H X N st a w → wp2 P k Q st → c.wp P (RQ w0 S0 own H X N Q) a w
  | .skip, k, Q, st, a, w, hc, _, hr, h => by unfold comp at hc; cases hc; exact wp_skip ⟨st, hr, h⟩
  | .region id ops dr, k, Q, st, a, w, hc, hok, hr, h => by
    unfold comp at hc
    cases ho : comps ops ops.toList with
    | none => simp [ho] at hc
    | some os1 =>
      simp only [ho, Option.map_some, Option.some.injEq] at hc
      subst hc
      obtain ⟨st', hw, h⟩ := h
      unfold okCode2 at hok
      rcases h with ⟨hd, h⟩ | ⟨rfl, h | h⟩ | ⟨rfl, hlo, h⟩
      · exact region_sound hm hN (okRegion_of2 hok hd) (hw _ _ _ _ _ _ _ _ hr) (wpM_wpL ho h)
      · exact regionX_sound hN hok (hw _ _ _ _ _ _ _ _ hr) ho h
      · unfold okRegion2 at hok
        simp only [Bool.and_eq_true, List.all_eq_true] at hok
        exact h id ops ho _ _ _ _ _ _ _ _ (hw _ _ _ _ _ _ _ _ hr) hN hok.1.1 _ fun s a' w' hr' hs => ⟨s, hr', hs⟩
      · exact regionD_sound hm hN hok hlo (hw _ _ _ _ _ _ _ _ hr) (wpMD_wpLD ho h)
  | .seq x y, k, Q, st, a, w, hc, hok, hr, h => by
    unfold comp at hc
    obtain ⟨k1, k2, hx, hy, rfl⟩ := two_inv hc
    unfold okCode2 at hok
    simp only [Bool.and_eq_true] at hok
    rcases h with h | h
    case inr => exact h lo x y hx hy _ _ _ _ _ _ _ _ hr hN hok.1 hok.2
    refine wp_seq (wp_mono (code2_sound hm hN lo x hx hok.1 hr h) fun e a' w' he => ?_)
    cases e with
    | normal =>
      obtain ⟨st', hr', h'⟩ := he
      exact code2_sound hm hN lo y hy hok.2 hr' h'
    | exit id => exact he
    | ret => exact he
    | goto l => exact he.elim
    | panic c => exact he.elim
    | outgrown => exact he.elim
  | .cond c x y, k, Q, st, a, w, hc, hok, hr, h => by
    unfold comp at hc
    obtain ⟨k1, k2, hx, hy, rfl⟩ := two_inv hc
    unfold okCode2 at hok
    simp only [Bool.and_eq_true] at hok
    obtain ⟨b, hb, h⟩ := h
    have hev : a.eval c = .bool b := by
      obtain ⟨m, cap, S, hr, _⟩ := hr
      have := hr.ev c
      unfold boolA at hb
      split at hb
      · rename_i b' hb'
        cases hb
        rw [hb'] at this
        exact (AVrep_v_inv this).1
      · cases hb
    refine wp_cond hev ?_
    cases b with
    | true => exact code2_sound hm hN lo x hx hok.1 hr h
    | false => exact code2_sound hm hN lo y hy hok.2 hr h
  | .block id c, k, Q, st, a, w, hc, hok, hr, h => by
    unfold comp at hc
    cases ho : comp lo c with
    | none => simp [ho] at hc
    | some k1 =>
      simp only [ho, Option.map_some, Option.some.injEq] at hc
      subst hc
      unfold okCode2 at hok
      refine wp_block (wp_mono (code2_sound hm hN lo c ho hok hr h) fun e a' w' he => ?_)
      cases e with
      | normal => exact he
      | exit i =>
        obtain ⟨st', hr', h'⟩ := he
        unfold Exit.inBlock
        simp only [inBlk] at h'
        dsimp only
        split
        · rename_i hi; rw [if_pos hi] at h'; exact ⟨st', hr', h'⟩
        · rename_i hi; rw [if_neg hi] at h'; exact ⟨st', hr', h'⟩
      | ret => exact he
      | goto l => exact he.elim
      | panic c => exact he.elim
      | outgrown => exact he.elim
  | .loop c, k, Q, st, a, w, hc, hok, hr, h => by
    unfold comp at hc
    cases ho : comp lo c with
    | none => simp [ho] at hc
    | some k1 =>
      simp only [ho, Option.map_some, Option.some.injEq] at hc
      subst hc
      unfold okCode2 at hok
      obtain ⟨I, μ, h0, h1⟩ := h
      let J : Act → World → Nat → Prop := fun a w n => ∃ st, Rel w0 S0 own H X N st a w ∧ I st ∧ μ st = n
      classical
      have least : ∀ a w, (∃ n, J a w n) → ∃ n, J a w n ∧ ∀ k, J a w k → n ≤ k := fun a w ⟨n, hn⟩ => by
        induction n using Nat.strongRecOn with
        | _ n ih =>
          by_cases hlt : ∃ k, k < n ∧ J a w k
          · obtain ⟨k, hk1, hk2⟩ := hlt
            exact ih k hk1 hk2
          · exact ⟨n, hn, fun k hk => Nat.le_of_not_lt fun hlt' => hlt ⟨k, hlt', hk⟩⟩
      let μ' : Act → World → Nat := fun a w => if hex : ∃ n, J a w n then (least a w hex).choose else 0
      refine wp_loop (fun a w => ∃ n, J a w n) μ' ⟨μ st, st, hr, h0, rfl⟩ fun a w hex => ?_
      have hμ : μ' a w = (least a w hex).choose := by simp only [μ', dif_pos hex]
      obtain ⟨⟨st1, hr1, hI1, hm1⟩, _⟩ := (least a w hex).choose_spec
      refine wp_mono (code2_sound hm hN lo c ho hok hr1 (h1 st1 hI1)) fun e a' w' he => ?_
      cases e with
      | normal =>
        obtain ⟨st', hr', hI', hlt⟩ := he
        have hex' : ∃ n, J a' w' n := ⟨μ st', st', hr', hI', rfl⟩
        refine ⟨hex', ?_⟩
        have hle := (least a' w' hex').choose_spec.2 (μ st') ⟨st', hr', hI', rfl⟩
        have hμ' : μ' a' w' = (least a' w' hex').choose := by simp only [μ', dif_pos hex']
        omega
      | exit id => exact he
      | ret => exact he
      | goto l => exact he.elim
      | panic c => exact he.elim
      | outgrown => exact he.elim
  | .exit id, k, Q, st, a, w, hc, _, hr, h => by unfold comp at hc; cases hc; exact wp_exit ⟨st, hr, h⟩
  | .ret, k, Q, st, a, w, hc, _, hr, h => by unfold comp at hc; cases hc; exact wp_ret ⟨st, hr, h⟩
  | .scope c, _, _, _, _, _, hc, _, _, _ => by unfold comp at hc; cases hc
  | .rangeFunc .., _, _, _, _, _, hc, _, _, _ => by unfold comp at hc; cases hc
  | .label _, _, _, _, _, _, hc, _, _, _ => by unfold comp at hc; cases hc
  | .goto _, _, _, _, _, _, hc, _, _, _ => by unfold comp at hc; cases hc
  | .refuse _, _, _, _, _, _, hc, _, _, _ => by unfold comp at hc; cases hc
end

/-- A contract, by the calculus, with steps that give objects other names. -/
theorem callsF_of_wp2 {P : Program} {f : FuncId} {fn : Func} {c : Code} {k : Code1} (lo : Nat → List Nat) (hm : P.follows .mixedOrders = true) (hf : P.funcs[f]? = some fn) (hb : fn.body = some c) (hname : (fn.name == "runtime.NumGoroutine") = false) (hok : (decide (fn.ntmps ≤ base) && okCode2 fn.ntmps lo c) = true) (hc : comp lo c = some k) {rs : List ResultVar} (hrs : fn.results.toList = rs)
    {ags : List Arg} {res : RV} {outs : List (Option Arg)} (hlen : ags.length ≤ fn.ntmps) (hlike : Arg.like ags outs) (hwp : wp2 P k (Fin (Back P rs ags res outs)) (St.enter ags)) : CallsF P f ags res outs := by
  subst hrs
  simp only [Bool.and_eq_true, decide_eq_true_eq] at hok
  refine ⟨⟨fn, hf, hname, by rw [hb]; rfl⟩, hlike, fun w S us usF ab hS hfl harg hn hlt hfx => ?_⟩
  obtain rfl := flatU_nones _ _ _ hfl
  obtain ⟨g, rfl, hr⟩ := enter_rel (X := fun _ => undef) hS harg hn hlt hfx hlen
  refine calls_of_wp hf hb (wp_mono (code2_sound hm hok.1 lo c hc hok.2 hr hwp) fun e a' w' he => ?_)
  cases e with
  | normal =>
    obtain ⟨st, h1, h2⟩ := he
    exact back_post h1 h2
  | ret =>
    obtain ⟨st, h1, h2⟩ := he
    exact back_post h1 h2
  | exit i =>
    obtain ⟨st, h1, h2⟩ := he
    exact h2.elim
  | goto l => exact he.elim
  | panic c => exact he.elim
  | outgrown => exact he.elim

/-! ### rules -/
section
variable {P : Program} {Q : Ex → St → Prop} {st : St}
theorem wp2_seq {a b : Code1} (h : ∀ K : St → Prop, (∀ s, wp2 P b Q s → K s) → wp2 P a (thenQ K Q) st) : wp2 P (.seq a b) Q st := by
  show wp2 P a (thenQ (wp2 P b Q) Q) st ∨ SeqI P a b Q st
  exact .inl (h _ fun _ h => h)
theorem wp2_seqI {a b : Code1} (h : SeqI P a b Q st) : wp2 P (.seq a b) Q st := by
  show wp2 P a (thenQ (wp2 P b Q) Q) st ∨ SeqI P a b Q st
  exact .inr h
theorem wp2_block {id : Nat} {c : Code1} (h : wp2 P c (inBlk id Q) st) : wp2 P (.block id c) Q st := h
theorem wp2_region {mk : List Nat} {dr : Bool} {lo : List Nat} {ops : List Op1} (h : wpM P dr lo ops (st.kill mk) (Q .normal)) (hd : (dr && lo.contains dynMark) = false := by rfl) : wp2 P (.region mk dr lo ops) Q st := ⟨st, Weaker.refl _, .inl ⟨hd, h⟩⟩
theorem wp2_regionX {mk : List Nat} {lo : List Nat} {ops : List Op1} (h : wpX P lo ops (st.kill mk) (Q .normal)) : wp2 P (.region mk false lo ops) Q st := ⟨st, Weaker.refl _, .inr (.inl ⟨rfl, .inl h⟩)⟩
@[simp] theorem wp2_skip (P : Program) (Q : Ex → St → Prop) (st : St) : wp2 P .skip Q st = Q .normal st := rfl
@[simp] theorem wp2_exit (P : Program) (id : Nat) (Q : Ex → St → Prop) (st : St) : wp2 P (.exit id) Q st = Q (.exit id) st := rfl
@[simp] theorem wp2_ret (P : Program) (Q : Ex → St → Prop) (st : St) : wp2 P .ret Q st = Q .ret st := rfl
theorem wp2_cond {c : Operand} {x y : Code1} (h : ∀ X Y : St → Prop, (∀ s, wp2 P x Q s → X s) → (∀ s, wp2 P y Q s → Y s) → condK (boolA (st.ev c)) X Y st) : wp2 P (.cond c x y) Q st := by
  have := h _ _ (fun _ h => h) (fun _ h => h)
  unfold condK at this
  exact this
theorem wp2_loop {c : Code1} (I : Nat → St → Prop) (n : Nat) (h0 : I n st)
    (h : ∀ n s, I n s → ∀ K : St → Prop, (∀ m s', m < n → I m s' → K s') → wp2 P c (thenQ K Q) s) : wp2 P (.loop c) Q st := by
  classical
  have least : ∀ s, (∃ n, I n s) → ∃ n, I n s ∧ ∀ k, I k s → n ≤ k := fun s ⟨n, hn⟩ => by
    induction n using Nat.strongRecOn with
    | _ n ih =>
      by_cases hlt : ∃ k, k < n ∧ I k s
      · obtain ⟨k, hk1, hk2⟩ := hlt
        exact ih k hk1 hk2
      · exact ⟨n, hn, fun k hk => Nat.le_of_not_lt fun hlt' => hlt ⟨k, hlt', hk⟩⟩
  let μ : St → Nat := fun s => if hex : ∃ n, I n s then (least s hex).choose else 0
  refine ⟨fun s => ∃ n, I n s, μ, ⟨n, h0⟩, fun s hex => ?_⟩
  have hs := (least s hex).choose_spec
  refine h _ s hs.1 _ fun m s' hm hI => ?_
  have hex' : ∃ n, I n s' := ⟨m, hI⟩
  have h1 : μ s' = (least s' hex').choose := by simp only [μ, dif_pos hex']
  have h2 : μ s = (least s hex).choose := by simp only [μ, dif_pos hex]
  have h3 := (least s' hex').choose_spec.2 m hI
  exact ⟨⟨m, hI⟩, by omega⟩
end
theorem wp2_weak {P : Program} {Q : Ex → St → Prop} {st st' : St} {mk : List Nat} {dr : Bool} {lo : List Nat} {ops : List Op1} (hw : Weaker st st') (h : wp2 P (.region mk dr lo ops) Q st') : wp2 P (.region mk dr lo ops) Q st := by
  obtain ⟨st2, h1, h2⟩ := h
  exact ⟨st2, hw.trans h1, h2⟩
theorem wp2_rename1 {P : Program} {Q : Ex → St → Prop} {st : St} (p q : Id) (hde : (decide (p.1 ≠ q.1) && decide (p.1 < base) && decide (q.1 < base)) = true) {mk : List Nat} {dr : Bool} {lo : List Nat} {ops : List Op1} (h : wp2 P (.region mk dr lo ops) Q ((st.kill1 q).renG (ren1 p q) (inv1 p q))) : wp2 P (.region mk dr lo ops) Q st := by
  simp only [Bool.and_eq_true, decide_eq_true_eq] at hde
  exact wp2_weak (Weaker.ren1 st p q (fun e => hde.1.1 (by rw [e])) hde.1.2 hde.2) h
@[simp] theorem tm_ren (s : St) (r : Id → Id) (inv : Id → Option Id) (t : Nat) : (s.renG r inv).tm t = (s.tm t).renG r := rfl
@[simp] theorem ob_ren (s : St) (r : Id → Id) (inv : Id → Option Id) (id : Id) : (s.renG r inv).ob id = (inv id).bind fun i => (s.ob i).map (Ob.renG r) := rfl
@[simp] theorem invI_def (d e a b : Nat) : invI d e (a, b) = if a = e then some (d, b) else if a = d then none else some (a, b) := rfl
@[simp] theorem renI_def (d e a b : Nat) : renI d e (a, b) = if a = d then (e, b) else (a, b) := rfl
@[simp] theorem inv1_def (a b c d x y : Nat) : inv1 (a, b) (c, d) (x, y) = if x = c ∧ y = d then some (a, b) else if x = a ∧ y = b then none else some (x, y) := by simp [inv1]
@[simp] theorem ren1_def (a b c d x y : Nat) : ren1 (a, b) (c, d) (x, y) = if x = a ∧ y = b then (c, d) else (x, y) := by simp [ren1]
@[simp] theorem ren_t (r : Id → Id) (x : T) : (AV.t x).renG r = .t x := rfl
@[simp] theorem ren_row (r : Id → Id) (id : Id) (sz i n : Nat) : (AV.row id sz i n).renG r = .row (r id) sz i n := rfl
@[simp] theorem ren_ptr (r : Id → Id) (id : Id) (i n : Nat) : (AV.ptr id i n).renG r = .ptr (r id) i n := rfl
@[simp] theorem ren_mp (r : Id → Id) (id : Id) : (AV.mp id).renG r = .mp (r id) := rfl
@[simp] theorem ren_clo (r : Id → Id) (f : Nat) (xs ys : List AV) : (AV.clo f xs ys).renG r = .clo f (AV.rensG r xs) (AV.rensG r ys) := rfl
@[simp] theorem ren_ifc (r : Id → Id) (ty : Nat) (x : AV) : (AV.ifc ty x).renG r = .ifc ty (x.renG r) := rfl
@[simp] theorem ren_roptr (r : Id → Id) (cs : List T) : (AV.roptr cs).renG r = .roptr cs := rfl
@[simp] theorem ren_full (r : Id → Id) (cs : List (List T)) : (AV.full cs).renG r = .full cs := rfl
@[simp] theorem ren_bad (r : Id → Id) : AV.bad.renG r = .bad := rfl
@[simp] theorem ren_agg (r : Id → Id) (cs : List AV) : (AV.agg cs).renG r = .agg (AV.rensG r cs) := rfl
@[simp] theorem ren_tup (r : Id → Id) (cs : List AV) : (AV.tup cs).renG r = .tup (AV.rensG r cs) := rfl
@[simp] theorem rens_nil (r : Id → Id) : AV.rensG r [] = [] := rfl
@[simp] theorem rens_cons (r : Id → Id) (v : AV) (vs : List AV) : AV.rensG r (v :: vs) = v.renG r :: AV.rensG r vs := rfl
@[simp] theorem obren_var (r : Id → Id) (cs : List AV) : (Ob.var cs).renG r = .var (AV.rensG r cs) := rfl
@[simp] theorem obren_row (r : Id → Id) (sz : Nat) (es : List (List T)) : (Ob.row sz es).renG r = .row sz es := rfl
@[simp] theorem obren_frz (r : Id → Id) (sz : Nat) (es : List (List T)) : (Ob.frz sz es).renG r = .frz sz es := rfl
@[simp] theorem obren_big (r : Id → Id) (sz : Nat) (es : List (List AV)) : (Ob.big sz es).renG r = .big sz (es.map (AV.rensG r)) := rfl
@[simp] theorem obren_map (r : Id → Id) (kd : Nat) (kvs : List (MK × AV)) : (Ob.map kd kvs).renG r = .map kd (kvs.map fun p => (p.1, p.2.renG r)) := rfl
@[simp] theorem obren_fmap (r : Id → Id) (kd : Nat) (kvs : List (MK × Value)) : (Ob.fmap kd kvs).renG r = .fmap kd kvs := rfl
@[simp] theorem tm_kill1 (s : St) (q : Id) (t : Nat) : (s.kill1 q).tm t = (s.tm t).kill1 q := rfl
@[simp] theorem ob_kill1 (s : St) (a b x y : Nat) : (s.kill1 (a, b)).ob (x, y) = if x = a ∧ y = b then none else (s.ob (x, y)).map (Ob.kill1 (a, b)) := by simp [St.kill1]
@[simp] theorem kill1_t (q : Id) (x : T) : (AV.t x).kill1 q = .t x := rfl
@[simp] theorem kill1_row (a b x y sz i n : Nat) : (AV.row (x, y) sz i n).kill1 (a, b) = if x = a ∧ y = b then .bad else .row (x, y) sz i n := by simp [AV.kill1]
@[simp] theorem kill1_ptr (a b x y i n : Nat) : (AV.ptr (x, y) i n).kill1 (a, b) = if x = a ∧ y = b then .bad else .ptr (x, y) i n := by simp [AV.kill1]
@[simp] theorem kill1_mp (a b x y : Nat) : (AV.mp (x, y)).kill1 (a, b) = if x = a ∧ y = b then .bad else .mp (x, y) := by simp [AV.kill1]
@[simp] theorem kill1_clo (q : Id) (f : Nat) (xs ys : List AV) : (AV.clo f xs ys).kill1 q = .clo f (AV.kills1 q xs) (AV.kills1 q ys) := rfl
@[simp] theorem kill1_ifc (q : Id) (ty : Nat) (x : AV) : (AV.ifc ty x).kill1 q = .ifc ty (x.kill1 q) := rfl
@[simp] theorem kill1_roptr (q : Id) (cs : List T) : (AV.roptr cs).kill1 q = .roptr cs := rfl
@[simp] theorem kill1_full (q : Id) (cs : List (List T)) : (AV.full cs).kill1 q = .full cs := rfl
@[simp] theorem kill1_bad (q : Id) : AV.bad.kill1 q = .bad := rfl
@[simp] theorem kill1_agg (q : Id) (cs : List AV) : (AV.agg cs).kill1 q = .agg (AV.kills1 q cs) := rfl
@[simp] theorem kill1_tup (q : Id) (cs : List AV) : (AV.tup cs).kill1 q = .tup (AV.kills1 q cs) := rfl
@[simp] theorem kills1_nil (q : Id) : AV.kills1 q [] = [] := rfl
@[simp] theorem kills1_cons (q : Id) (v : AV) (vs : List AV) : AV.kills1 q (v :: vs) = v.kill1 q :: AV.kills1 q vs := rfl
@[simp] theorem obkill1_var (q : Id) (cs : List AV) : (Ob.var cs).kill1 q = .var (AV.kills1 q cs) := rfl
@[simp] theorem obkill1_row (q : Id) (sz : Nat) (es : List (List T)) : (Ob.row sz es).kill1 q = .row sz es := rfl
@[simp] theorem obkill1_frz (q : Id) (sz : Nat) (es : List (List T)) : (Ob.frz sz es).kill1 q = .frz sz es := rfl
@[simp] theorem obkill1_big (q : Id) (sz : Nat) (es : List (List AV)) : (Ob.big sz es).kill1 q = .big sz (es.map (AV.kills1 q)) := rfl
@[simp] theorem obkill1_map (q : Id) (kd : Nat) (kvs : List (MK × AV)) : (Ob.map kd kvs).kill1 q = .map kd (kvs.map fun p => (p.1, p.2.kill1 q)) := rfl
@[simp] theorem obkill1_fmap (q : Id) (kd : Nat) (kvs : List (MK × Value)) : (Ob.fmap kd kvs).kill1 q = .fmap kd kvs := rfl

attribute [irreducible] wp2
end Cal

/- A calculus of our own, thirty-fourth part: functions that are handed structs of rows to be written. No program is named here. -/
set_option linter.unusedSimpArgs false
set_option linter.unusedVariables false
namespace Cal
open Go Go.RowKit

variable {P : Program} {w0 w : World} {S0 S : Nat → Prop} {own : List Nat} {X : Nat → Value} {N : Nat} {m cap : Id → Nat} {st : St} {a : Act}

theorem flatU_len : ∀ {sh : Shape} {us usF : List Value}, flatU sh us = some usF → us.length = sh.length
  | [], [], _, _ => rfl
  | [], _ :: _, _, h => by simp [flatU] at h
  | none :: _, [], _, h => by simp [flatU] at h
  | some _ :: _, [], _, h => by simp [flatU] at h
  | none :: sh, u :: us, usF, h => by
    simp only [flatU] at h
    cases hl : flatU sh us with
    | none => rw [hl] at h; cases h
    | some l => simp [flatU_len hl]
  | some n :: sh, u :: us, usF, h => by
    cases u with
    | agg cs =>
      simp only [flatU] at h
      split at h
      · cases hl : flatU sh us with
        | none => rw [hl] at h; cases h
        | some l => simp [flatU_len hl]
      · cases h
    | _ => simp [flatU] at h

theorem enterTm_rep {ob : Id → Option Ob} {ags : List Arg} : ∀ {sh : Shape} {us usF : List Value} {k : Nat}, flatU sh us = some usF → (∀ j u, usF[j]? = some u → AVrep w S m cap ob (argTm ags (k + j)) u) → ∀ t u, us[t]? = some u → AVrep w S m cap ob (enterTm ags sh k t) u
  | [], [], _, _, _, _, t, u, h => by simp at h
  | [], _ :: _, _, _, h, _, _, _, _ => by simp [flatU] at h
  | none :: _, [], _, _, h, _, _, _, _ => by simp [flatU] at h
  | some _ :: _, [], _, _, h, _, _, _, _ => by simp [flatU] at h
  | none :: sh, u0 :: us, usF, k, h, hr, t, u, hu => by
    simp only [flatU] at h
    cases hl : flatU sh us with
    | none => rw [hl] at h; cases h
    | some l =>
      rw [hl] at h
      simp only [Option.map_some, Option.some.injEq] at h
      subst h
      cases t with
      | zero =>
        simp at hu
        subst hu
        exact hr 0 u0 rfl
      | succ t =>
        simp only [enterTm]
        exact enterTm_rep hl (fun j u' hj => by have := hr (j + 1) u' (by simpa using hj); rw [show k + 1 + j = k + (j + 1) by omega]; exact this) t u (by simpa using hu)
  | some n :: sh, u0 :: us, usF, k, h, hr, t, u, hu => by
    cases u0 with
    | agg cs =>
      simp only [flatU] at h
      split at h
      · rename_i hn
        cases hl : flatU sh us with
        | none => rw [hl] at h; cases h
        | some l =>
          rw [hl] at h
          simp only [Option.map_some, Option.some.injEq] at h
          subst h
          cases t with
          | zero =>
            simp at hu
            subst hu
            simp only [enterTm]
            unfold AVrep
            refine ⟨cs.toList, by simp, ?_⟩
            rw [AVreps_iff]
            refine ⟨by simp [hn], fun j v x hj hx => ?_⟩
            rw [List.getElem?_map] at hj
            have hxl := (List.getElem?_eq_some_iff.1 hx).1
            rw [List.getElem?_range (by simpa [hn] using hxl)] at hj
            simp at hj
            subst hj
            refine hr j x ?_
            rw [List.getElem?_append_left hxl]
            exact hx
          | succ t =>
            simp only [enterTm]
            refine enterTm_rep hl (fun j u' hj => ?_) t u (by simpa using hu)
            have := hr (n + j) u' (by
              rw [List.getElem?_append_right (by simp [hn])]
              simpa [hn] using hj)
            rw [show k + n + j = k + (n + j) by omega]
            exact this
      · cases h
    | _ => simp [flatU] at h

theorem enterTm_bad (ags : List Arg) : ∀ {sh : Shape} {k t : Nat}, sh.length ≤ t → enterTm ags sh k t = .bad
  | [], _, _, _ => rfl
  | none :: sh, k, 0, h => by simp at h
  | some _ :: sh, k, 0, h => by simp at h
  | none :: sh, k, t + 1, h => by
    simp only [enterTm]
    exact enterTm_bad ags (by simpa using h)
  | some n :: sh, k, t + 1, h => by
    simp only [enterTm]
    exact enterTm_bad ags (by simpa using h)

theorem enter_relS {sh : Shape} {ags : List Arg} {us usF : List Value} {ab : List (Nat × Nat)} (hS : ∀ b, S b → b < w.heap.size) (hfl : flatU sh us = some usF) (h : ArgsRep w S ags usF ab) (hn : (ab.map (·.1)).Nodup) (hlt : ∀ b ∈ ab.map (·.1), b < w.heap.size) (hfx : Fixed (ab.map (·.1)) w) (hN : sh.length ≤ N) :
    ∃ g, homes g 0 ags = ab ∧ Rel w S (ab.map (·.1)) g X N (St.enterS sh ags) { tmps := us.toArray ++ Array.replicate (N - us.toArray.size) undef, defers := [] } w := by
  obtain ⟨g, hg, m, cap, S', hr, hH⟩ := enter_rel (X := X) (N := ags.length) hS h hn hlt hfx (Nat.le_refl _)
  obtain ⟨_, g1, _, _⟩ := argsRep_at h
  have hul := flatU_len hfl
  have key := enterTm_rep (w := w) (S := S') (m := m) (cap := cap) (ob := (St.enter ags).ob) (ags := ags) (k := 0) hfl (fun j u hj => by
    have hjl := (List.getElem?_eq_some_iff.1 hj).1
    have := hr.tm j
    have hget : (usF.toArray ++ Array.replicate (ags.length - usF.toArray.size) undef).getD j undef = u := by
      rw [Array.getD_eq_getD_getElem?, Array.getElem?_append_left (by simpa using hjl)]
      simp [hj]
    rw [hget] at this
    rw [Nat.zero_add]
    exact this)
  refine ⟨g, hg, m, cap, S', ⟨by simp; omega, rfl, hr.after, hr.stab, hr.base, hr.fresh, hr.obs, hr.mine, hr.inj, fun t => ?_, hr.gh⟩, hH⟩
  · show AVrep w S' m cap (St.enter ags).ob (enterTm ags sh 0 t) _
    by_cases htu : t < us.length
    · have hget : (us.toArray ++ Array.replicate (N - us.toArray.size) undef).getD t undef = us[t] := by
        rw [Array.getD_eq_getD_getElem?, Array.getElem?_append_left (by simpa using htu)]
        simp [htu]
      rw [hget]
      exact key t _ (List.getElem?_eq_getElem htu)
    · rw [enterTm_bad ags (by omega)]
      unfold AVrep; trivial

/-- A contract of a function that is handed structs of rows. -/
theorem callsFS_of_wp2 {f : FuncId} {fn : Func} {c : Code} {k : Code1} (lo : Nat → List Nat) (hm : P.follows .mixedOrders = true) (hf : P.funcs[f]? = some fn) (hb : fn.body = some c) (hname : (fn.name == "runtime.NumGoroutine") = false) (hok : (decide (fn.ntmps ≤ base) && okCode2 fn.ntmps lo c) = true) (hc : comp lo c = some k) {rs : List ResultVar} (hrs : fn.results.toList = rs)
    {sh : Shape} {ags : List Arg} {res : RV} {outs : List (Option Arg)} (hlen : sh.length ≤ fn.ntmps) (hlike : Arg.like ags outs) (hwp : wp2 P k (Fin (Back P rs ags res outs)) (St.enterS sh ags)) : CallsFS P f sh ags res outs := by
  subst hrs
  simp only [Bool.and_eq_true, decide_eq_true_eq] at hok
  refine ⟨⟨fn, hf, hname, by rw [hb]; rfl⟩, hlike, fun w S us usF ab hS hfl harg hn hlt hfx => ?_⟩
  obtain ⟨g, rfl, hr⟩ := enter_relS (X := fun _ => undef) hS hfl harg hn hlt hfx hlen
  refine calls_of_wp hf hb (wp_mono (code2_sound hm hok.1 lo c hc hok.2 hr hwp) fun e a' w' he => ?_)
  cases e with
  | normal =>
    obtain ⟨st, h1, h2⟩ := he
    exact back_post h1 h2
  | ret =>
    obtain ⟨st, h1, h2⟩ := he
    exact back_post h1 h2
  | exit i =>
    obtain ⟨st, h1, h2⟩ := he
    exact h2.elim
  | goto l => exact he.elim
  | panic c => exact he.elim
  | outgrown => exact he.elim

end Cal

/- A calculus of our own: objects under canonical names. No program is named here. -/
set_option linter.unusedSimpArgs false
set_option linter.unusedVariables false
namespace Cal
open Go Go.RowKit

/-- The object that a temporary names, under the name (e, ..). -/
def canonI (s : St) (a e : Nat) : St := if a = e ∨ 100000 ≤ a ∨ 100000 ≤ e then s else (s.kill [e]).ren a e
def canonV (s : St) (e : Nat) : AV → St
  | .row id _ _ _ => canonI s id.1 e
  | .mp id => canonI s id.1 e
  | .ptr id _ _ => canonI s id.1 e
  | _ => s
def canon1 (s : St) (t e : Nat) : St := canonV s e (s.tm t)
def canons (s : St) : List (Nat × Nat) → St
  | [] => s
  | (t, e) :: l => canons (canon1 s t e) l
theorem Weaker.canonI (s : St) (a e : Nat) : Weaker s (canonI s a e) := by
  unfold Cal.canonI
  split
  · exact Weaker.refl s
  · rename_i h
    have h1 : a ≠ e := fun h2 => h (.inl h2)
    exact Weaker.ren s a e h1 (by unfold base; omega) (by unfold base; omega)
theorem Weaker.canon1 (s : St) (t e : Nat) : Weaker s (canon1 s t e) := by
  unfold Cal.canon1 canonV
  split
  · exact Weaker.canonI _ _ _
  · exact Weaker.canonI _ _ _
  · exact Weaker.canonI _ _ _
  · exact Weaker.refl s
theorem Weaker.canons : ∀ (l : List (Nat × Nat)) (s : St), Weaker s (canons s l)
  | [], s => Weaker.refl s
  | (t, e) :: l, s => (Weaker.canon1 s t e).trans (Weaker.canons l _)
theorem wp2_canon {P : Program} {Q : Ex → St → Prop} {st : St} (l : List (Nat × Nat)) {mk : List Nat} {dr : Bool} {lo : List Nat} {ops : List Op1} (h : wpM P dr lo ops ((canons st l).kill mk) (Q .normal)) (hd : (dr && lo.contains dynMark) = false := by rfl) : wp2 P (.region mk dr lo ops) Q st :=
  wp2_weak (Weaker.canons l st) (wp2_region h hd)
theorem canons_nil (s : St) : canons s [] = s := rfl
theorem canons_cons (s : St) (t e : Nat) (l : List (Nat × Nat)) : canons s ((t, e) :: l) = canons (canonV s e (s.tm t)) l := rfl
theorem canonV_row (s : St) (e a b sz i n : Nat) : canonV s e (.row (a, b) sz i n) = if a = e ∨ 100000 ≤ a ∨ 100000 ≤ e then s else (s.kill [e]).ren a e := rfl
theorem canonV_mp (s : St) (e a b : Nat) : canonV s e (.mp (a, b)) = if a = e ∨ 100000 ≤ a ∨ 100000 ≤ e then s else (s.kill [e]).ren a e := rfl
theorem canonV_ptr (s : St) (e a b i n : Nat) : canonV s e (.ptr (a, b) i n) = if a = e ∨ 100000 ≤ a ∨ 100000 ≤ e then s else (s.kill [e]).ren a e := rfl
theorem canonV_t (s : St) (e : Nat) (x : T) : canonV s e (.t x) = s := rfl
attribute [simp] canons_nil canons_cons canonV_row canonV_mp canonV_ptr canonV_t
/-- A row whose cells are taken for names, ahead of a region. -/
theorem wp2_big {P : Program} {Q : Ex → St → Prop} {st : St} (id : Id) {sz : Nat} {es : List (List T)} (ho : st.ob id = some (.row sz es)) {mk : List Nat} {dr : Bool} {lo : List Nat} {ops : List Op1} (h : wp2 P (.region mk dr lo ops) Q (st.setOb id (some (.big sz (es.map fun e => e.map .t))))) : wp2 P (.region mk dr lo ops) Q st :=
  wp2_weak (Weaker.big st id ho) h
end Cal

/- A calculus of our own: functions that are entered in line, by the calculus; which operations enter them. No program is named here. -/
set_option linter.unusedSimpArgs false
set_option linter.unusedVariables false
namespace Cal
open Go Go.RowKit

variable {P : Program}

theorem AVreps.len' {w : World} {S : Nat → Prop} {m cap : Id → Nat} {ob : Id → Option Ob} : ∀ {vs : List AV} {us : List Value}, AVreps w S m cap ob vs us → us.length = vs.length
  | [], us, h => by unfold AVreps at h; simp [h]
  | v :: vs, us, h => by
    unfold AVreps at h
    obtain ⟨u, us', rfl, _, h2⟩ := h
    simp [h2.len']
theorem AVreps.getD' {w : World} {S : Nat → Prop} {m cap : Id → Nat} {ob : Id → Option Ob} : ∀ {vs : List AV} {us : List Value} (h : AVreps w S m cap ob vs us) (t : Nat), AVrep w S m cap ob (vs.getD t .bad) (us.getD t undef)
  | [], us, h, t => by simp; unfold AVrep; trivial
  | v :: vs, us, h, t => by
    unfold AVreps at h
    obtain ⟨u, us', rfl, h1, h2⟩ := h
    cases t with
    | zero => simpa using h1
    | succ t => simpa using h2.getD' t

/-- How a function that is entered in line ends. -/
def BackI (P : Program) (rs : List ResultVar) (R : AV → St → Prop) (s : St) : Prop := ∃ v, resultA P s rs = some v ∧ R v s.bare
abbrev FinI (P : Program) (rs : List ResultVar) (R : AV → St → Prop) : Ex → St → Prop := Fin (BackI P rs R)

/-- A function in line, by the calculus. -/
theorem inl_of_wp2 {f : FuncId} {fn : Func} {c : Code} {k : Code1} (lo : Nat → List Nat) (hm : P.follows .mixedOrders = true) (hf : P.funcs[f]? = some fn) (hb : fn.body = some c) (hok : (decide (fn.ntmps ≤ base) && okCode2 fn.ntmps lo c) = true) (hc : comp lo c = some k) {rs : List ResultVar} (hrs : fn.results.toList = rs)
    {vs : List AV} (hlen : vs.length ≤ fn.ntmps) {s : St} {R : AV → St → Prop} (hwp : wp2 P k (FinI P rs R) (s.body vs)) : Inl P f vs s R := by
  subst hrs
  simp only [Bool.and_eq_true, decide_eq_true_eq] at hok
  intro w0 S0 own H X m cap S w us hr hH hus
  have hul := hus.len'
  have hrel : Rel w0 S0 own H X fn.ntmps (s.body vs) { tmps := us.toArray ++ Array.replicate (fn.ntmps - us.toArray.size) undef, defers := [] } w := by
    refine ⟨m, cap, S, ⟨by simp; omega, rfl, hr.after, hr.stab, hr.base, hr.fresh, hr.obs, hr.mine, hr.inj, fun t => ?_, hr.gh⟩, hH⟩
    have := hus.getD' t
    have e : (us.toArray ++ Array.replicate (fn.ntmps - us.toArray.size) undef).getD t undef = us.getD t undef := by
      rw [Array.getD_eq_getD_getElem?, List.getD_eq_getElem?_getD]
      by_cases ht : t < us.length
      · rw [Array.getElem?_append_left (by simpa using ht)]
        simp
      · rw [Array.getElem?_append_right (by simpa using Nat.le_of_not_lt ht), List.getElem?_eq_none (Nat.le_of_not_lt ht), Array.getElem?_replicate]
        split <;> rfl
    rw [e]
    exact this
  refine calls_of_wp hf hb (wp_mono (code2_sound hm hok.1 lo c hc hok.2 hrel hwp) fun e a' w' he => ?_)
  have fin : ∀ st', Rel w0 S0 own H X fn.ntmps st' a' w' → (∃ v, resultA P st' fn.results.toList = some v ∧ R v st'.bare) → bodyPost P fn (fun e w' => ∃ u v s' m' cap' S', e = .returned u ∧ RelAt w0 S0 own X 0 m' cap' S' s' bareAct w' ∧ (∀ k, m' (base + k, 0) = (H k).1 ∧ cap' (base + k, 0) = (H k).2) ∧ AVrep w' S' m' cap' s'.ob v u ∧ R v s') .ret a' w' := by
    intro st' hr' ⟨v, h1, h2⟩
    obtain ⟨m', cap', S', hr', hH'⟩ := hr'
    obtain ⟨u, u1, u2⟩ := result_run hr' h1
    exact ⟨hr'.defers, u, u1, u, v, st'.bare, m', cap', S', rfl, ⟨rfl, rfl, hr'.after, hr'.stab, hr'.base, hr'.fresh, hr'.obs, hr'.mine, hr'.inj, fun t => by simp only [St.bare]; unfold AVrep; trivial, hr'.gh⟩, hH', u2, h2⟩
  cases e with
  | normal =>
    obtain ⟨st', h1, h2⟩ := he
    exact fin st' h1 h2
  | ret =>
    obtain ⟨st', h1, h2⟩ := he
    exact fin st' h1 h2
  | exit i =>
    obtain ⟨st', h1, h2⟩ := he
    exact h2.elim
  | goto l => exact he.elim
  | panic c => exact he.elim
  | outgrown => exact he.elim

theorem evs_rep1 {w0 w : World} {S0 S : Nat → Prop} {own : List Nat} {X : Nat → Value} {N : Nat} {m cap : Id → Nat} {st : St} {a : Act} (h : RelAt w0 S0 own X N m cap S st a w) (xs : List Operand) : AVreps w S m cap st.ob (xs.map st.ev) (xs.map a.eval) := evs_rep h (Froze.refl st) xs

/-- A call of a function that is named. -/
theorem entersAt_call {st : St} {f : FuncId} {xs : Array Operand} {ts : Array TypeId} (hf : enters P f) : EntersAt P st (.call ⟨.value (.func f), xs, ts⟩) f (xs.toList.map st.ev) := by
  intro o ho w0 S0 own X N m cap S a w hr
  refine ⟨xs.toList.map a.eval, ?_, evs_rep1 hr _⟩
  rw [run_call hf ho]
  have hus : (xs.toList.map a.eval).toArray = xs.map a.eval := by
    apply Array.toList_inj.1
    simp
  rw [hus]

end Cal

/- A calculus of our own: what a function that is entered in line leaves alone. No program is named here. -/
set_option linter.unusedSimpArgs false
set_option linter.unusedVariables false
namespace Cal
open Go Go.RowKit

/-! ### what stays as it is -/
mutual
theorem AV.kill_same {ds : List Nat} : ∀ {v : AV}, v.free (fun id => id.1 ∈ ds) → v.kill ds = v
  | .t _, _ => by unfold AV.kill; rfl
  | .row id sz i n, h => by unfold AV.free at h; unfold AV.kill; rw [if_neg h]
  | .ptr id i j, h => by unfold AV.free at h; unfold AV.kill; rw [if_neg h]
  | .agg cs, h => by unfold AV.free at h; unfold AV.kill; rw [AV.kills_same h]
  | .tup cs, h => by unfold AV.free at h; unfold AV.kill; rw [AV.kills_same h]
  | .roptr _, _ => by unfold AV.kill; rfl
  | .full _, _ => by unfold AV.kill; rfl
  | .bad, _ => by unfold AV.kill; rfl
  | .mp id, h => by unfold AV.free at h; unfold AV.kill; rw [if_neg h]
  | .clo f xs ys, h => by unfold AV.free at h; unfold AV.kill; rw [AV.kills_same h.1, AV.kills_same h.2]
  | .ifc ty x, h => by unfold AV.free at h; unfold AV.kill; rw [AV.kill_same h]
theorem AV.kills_same {ds : List Nat} : ∀ {vs : List AV}, AV.frees (fun id => id.1 ∈ ds) vs → AV.kills ds vs = vs
  | [], _ => by unfold AV.kills; rfl
  | v :: vs, h => by unfold AV.frees at h; unfold AV.kills; rw [AV.kill_same h.1, AV.kills_same h.2]
end
mutual
theorem AV.kill1_same {q : Id} : ∀ {v : AV}, v.free (fun id => id = q) → v.kill1 q = v
  | .t _, _ => by unfold AV.kill1; rfl
  | .row id sz i n, h => by unfold AV.free at h; unfold AV.kill1; rw [if_neg h]
  | .ptr id i j, h => by unfold AV.free at h; unfold AV.kill1; rw [if_neg h]
  | .agg cs, h => by unfold AV.free at h; unfold AV.kill1; rw [AV.kills1_same h]
  | .tup cs, h => by unfold AV.free at h; unfold AV.kill1; rw [AV.kills1_same h]
  | .roptr _, _ => by unfold AV.kill1; rfl
  | .full _, _ => by unfold AV.kill1; rfl
  | .bad, _ => by unfold AV.kill1; rfl
  | .mp id, h => by unfold AV.free at h; unfold AV.kill1; rw [if_neg h]
  | .clo f xs ys, h => by unfold AV.free at h; unfold AV.kill1; rw [AV.kills1_same h.1, AV.kills1_same h.2]
  | .ifc ty x, h => by unfold AV.free at h; unfold AV.kill1; rw [AV.kill1_same h]
theorem AV.kills1_same {q : Id} : ∀ {vs : List AV}, AV.frees (fun id => id = q) vs → AV.kills1 q vs = vs
  | [], _ => by unfold AV.kills1; rfl
  | v :: vs, h => by unfold AV.frees at h; unfold AV.kills1; rw [AV.kill1_same h.1, AV.kills1_same h.2]
end
mutual
theorem AV.renG_same {r : Id → Id} : ∀ {v : AV}, v.free (fun id => r id ≠ id) → v.renG r = v
  | .t _, _ => by unfold AV.renG; rfl
  | .row id sz i n, h => by unfold AV.free at h; unfold AV.renG; rw [Classical.not_not.1 h]
  | .ptr id i j, h => by unfold AV.free at h; unfold AV.renG; rw [Classical.not_not.1 h]
  | .agg cs, h => by unfold AV.free at h; unfold AV.renG; rw [AV.rensG_same h]
  | .tup cs, h => by unfold AV.free at h; unfold AV.renG; rw [AV.rensG_same h]
  | .roptr _, _ => by unfold AV.renG; rfl
  | .full _, _ => by unfold AV.renG; rfl
  | .bad, _ => by unfold AV.renG; rfl
  | .mp id, h => by unfold AV.free at h; unfold AV.renG; rw [Classical.not_not.1 h]
  | .clo f xs ys, h => by unfold AV.free at h; unfold AV.renG; rw [AV.rensG_same h.1, AV.rensG_same h.2]
  | .ifc ty x, h => by unfold AV.free at h; unfold AV.renG; rw [AV.renG_same h]
theorem AV.rensG_same {r : Id → Id} : ∀ {vs : List AV}, AV.frees (fun id => r id ≠ id) vs → AV.rensG r vs = vs
  | [], _ => by unfold AV.rensG; rfl
  | v :: vs, h => by unfold AV.frees at h; unfold AV.rensG; rw [AV.renG_same h.1, AV.rensG_same h.2]
end

theorem flatten_map_frees {p : Id → Prop} {g : List AV → List AV} (hg : ∀ e, AV.frees p e → g e = e) : ∀ {es : List (List AV)}, AV.frees p es.flatten → es.map g = es
  | [], _ => rfl
  | e :: es, h => by
    rw [List.flatten_cons] at h
    obtain ⟨h1, h2⟩ := frees_app h
    rw [List.map_cons, hg e h1, flatten_map_frees hg h2]
theorem vals_map_frees {p : Id → Prop} {g : AV → AV} (hg : ∀ e, e.free p → g e = e) : ∀ {kvs : List (MK × AV)}, AV.frees p (kvs.map (·.2)) → (kvs.map fun q => (q.1, g q.2)) = kvs
  | [], _ => rfl
  | e :: es, h => by
    rw [List.map_cons] at h
    unfold AV.frees at h
    rw [List.map_cons, hg _ h.1, vals_map_frees hg h.2]

theorem Ob.kill_same {ds : List Nat} {o : Ob} (h : AV.frees (fun id => id.1 ∈ ds) o.avs) : o.kill ds = o := by
  cases o with
  | var cs => exact congrArg Ob.var (AV.kills_same h)
  | big sz es => exact congrArg (Ob.big sz) (flatten_map_frees (fun e he => AV.kills_same he) h)
  | map kd kvs => exact congrArg (Ob.map kd) (vals_map_frees (g := AV.kill ds) (fun e he => AV.kill_same he) h)
  | _ => rfl
theorem Ob.kill1_same {q : Id} {o : Ob} (h : AV.frees (fun id => id = q) o.avs) : o.kill1 q = o := by
  cases o with
  | var cs => exact congrArg Ob.var (AV.kills1_same h)
  | big sz es => exact congrArg (Ob.big sz) (flatten_map_frees (fun e he => AV.kills1_same he) h)
  | map kd kvs => exact congrArg (Ob.map kd) (vals_map_frees (g := AV.kill1 q) (fun e he => AV.kill1_same he) h)
  | _ => rfl
theorem Ob.renG_same {r : Id → Id} {o : Ob} (h : AV.frees (fun id => r id ≠ id) o.avs) : o.renG r = o := by
  cases o with
  | var cs => exact congrArg Ob.var (AV.rensG_same h)
  | big sz es => exact congrArg (Ob.big sz) (flatten_map_frees (fun e he => AV.rensG_same he) h)
  | map kd kvs => exact congrArg (Ob.map kd) (vals_map_frees (g := AV.renG r) (fun e he => AV.renG_same he) h)
  | _ => rfl

/-- The names of what belongs to the callers, but for those of E. -/
def calm (E : List Nat) (id : Id) : Prop := 60000 ≤ id.1 ∧ id.1 < 80000 ∧ id.1 ∉ E
/-- The frames further out, and what stays of what belongs to them (all but F), name nothing else than that (all but E). -/
structure St.Calm (s : St) (E F : List Nat) : Prop where
  gh : ∀ t, (s.gh t).free fun id => ¬ calm E id
  ob : ∀ id o, calm F id → s.ob id = some o → AV.frees (fun id => ¬ calm E id) o.avs
/-- The frames further out, and what belongs to them (all but F), are as they were. -/
structure Keep (F : List Nat) (s0 s : St) : Prop where
  gh : ∀ t, s.gh t = s0.gh t
  ob : ∀ id, calm F id → s.ob id = s0.ob id
def offB (E : List Nat) (d : Nat) : Bool := decide (d < 60000) || decide (80000 ≤ d) || E.contains d
theorem offB_not {E : List Nat} {id : Id} (h : offB E id.1 = true) : ¬ calm E id := fun hc => by
  unfold offB at h
  unfold calm at hc
  simp only [Bool.or_eq_true, decide_eq_true_eq, List.contains_iff_mem] at h
  rcases h with (h | h) | h
  · omega
  · omega
  · exact hc.2.2 h

section
variable {s0 s : St} {E F : List Nat}
theorem Keep.refl (F : List Nat) (s : St) : Keep F s s := ⟨fun _ => rfl, fun _ _ => rfl⟩
theorem Keep.trans {s1 s2 s3 : St} (h : Keep F s1 s2) (k : Keep F s2 s3) : Keep F s1 s3 := ⟨fun t => (k.gh t).trans (h.gh t), fun id hid => (k.ob id hid).trans (h.ob id hid)⟩
theorem Keep.calm (h : Keep F s0 s) (hc : s0.Calm E F) : s.Calm E F := ⟨fun t => by rw [h.gh]; exact hc.gh t, fun id o hid ho => by rw [h.ob id hid] at ho; exact hc.ob id o hid ho⟩
theorem Keep.put (h : Keep F s0 s) (d : Option Nat) (v : AV) : Keep F s0 (s.put d v) := ⟨fun t => by rw [gh_put]; exact h.gh t, fun id hid => by rw [ob_put]; exact h.ob id hid⟩
theorem Keep.setOb (h : Keep F s0 s) {i : Id} (hi : offB F i.1 = true) (o : Option Ob) : Keep F s0 (s.setOb i o) := ⟨fun t => h.gh t, fun id hid => by
  have e : id ≠ i := fun e => offB_not hi (e ▸ hid)
  simp only [St.setOb, if_neg e]
  exact h.ob id hid⟩
theorem Keep.kill (hc : s0.Calm E F) (h : Keep F s0 s) {ds : List Nat} (hd : (ds.all fun d => offB E d && offB F d) = true) : Keep F s0 (s.kill ds) := by
  have hd' : ∀ id : Id, id.1 ∈ ds → ¬ Cal.calm E id ∧ ¬ Cal.calm F id := fun id hm => by
    have := List.all_eq_true.1 hd _ hm
    rw [Bool.and_eq_true] at this
    exact ⟨offB_not this.1, offB_not this.2⟩
  unfold St.kill
  split
  · exact h
  · refine ⟨fun t => ?_, fun id hid => ?_⟩
    · show AV.kill ds (s.gh t) = _
      rw [h.gh, AV.kill_same (AV.free_mono (fun id hid => (hd' id hid).1) _ (hc.gh t))]
    · show (if id.1 ∈ ds then none else (s.ob id).map (Ob.kill ds)) = _
      rw [if_neg (fun hm => (hd' id hm).2 hid), h.ob id hid]
      cases ho : s0.ob id with
      | none => rfl
      | some o =>
        simp only [Option.map_some]
        rw [Ob.kill_same (AV.frees_mono (fun id hid => (hd' id hid).1) _ (hc.ob id o hid ho))]
theorem Keep.kill1 (hc : s0.Calm E F) (h : Keep F s0 s) {q : Id} (hq : (offB E q.1 && offB F q.1) = true) : Keep F s0 (s.kill1 q) := by
  rw [Bool.and_eq_true] at hq
  have hd' : ∀ id : Id, id = q → ¬ Cal.calm E id := fun id hm => by
    subst hm
    exact offB_not hq.1
  refine ⟨fun t => ?_, fun id hid => ?_⟩
  · show AV.kill1 q (s.gh t) = _
    rw [h.gh, AV.kill1_same (AV.free_mono (fun id hid => hd' id hid) _ (hc.gh t))]
  · show (if id = q then none else (s.ob id).map (Ob.kill1 q)) = _
    rw [if_neg (fun hm => offB_not hq.2 (by rw [← hm]; exact hid)), h.ob id hid]
    cases ho : s0.ob id with
    | none => rfl
    | some o =>
      simp only [Option.map_some]
      rw [Ob.kill1_same (AV.frees_mono (fun id hid => hd' id hid) _ (hc.ob id o hid ho))]
theorem Keep.renG (hc : s0.Calm E F) (h : Keep F s0 s) {r : Id → Id} {inv : Id → Option Id} (hr : ∀ id, Cal.calm E id → r id = id) (hi : ∀ id, Cal.calm F id → inv id = some id) : Keep F s0 (s.renG r inv) := by
  have hd' : ∀ id : Id, r id ≠ id → ¬ Cal.calm E id := fun id hm hcm => hm (hr id hcm)
  refine ⟨fun t => ?_, fun id hid => ?_⟩
  · show AV.renG r (s.gh t) = _
    rw [h.gh, AV.renG_same (AV.free_mono (fun id hid => hd' id hid) _ (hc.gh t))]
  · show ((inv id).bind fun i => (s.ob i).map (Ob.renG r)) = _
    rw [hi id hid]
    simp only [Option.bind_some]
    rw [h.ob id hid]
    cases ho : s0.ob id with
    | none => rfl
    | some o =>
      simp only [Option.map_some]
      rw [Ob.renG_same (AV.frees_mono (fun id hid => hd' id hid) _ (hc.ob id o hid ho))]
theorem Keep.ren (hc : s0.Calm E F) (h : Keep F s0 s) {d e : Nat} (hq : (offB E d && offB F d && offB F e) = true) : Keep F s0 (s.ren d e) := by
  rw [Bool.and_eq_true, Bool.and_eq_true] at hq
  refine Keep.renG hc h (fun id hid => ?_) (fun id hid => ?_)
  · unfold renI
    rw [if_neg (fun e' => offB_not (id := id) (by rw [e']; exact hq.1.1) hid)]
  · unfold invI
    rw [if_neg (fun e' => offB_not (id := id) (by rw [e']; exact hq.2) hid), if_neg (fun e' => offB_not (id := id) (by rw [e']; exact hq.1.2) hid)]
theorem Keep.ren1 (hc : s0.Calm E F) (h : Keep F s0 s) {p q : Id} (hq : (offB E p.1 && offB F p.1 && offB F q.1) = true) : Keep F s0 (s.renG (Cal.ren1 p q) (Cal.inv1 p q)) := by
  rw [Bool.and_eq_true, Bool.and_eq_true] at hq
  refine Keep.renG hc h (fun id hid => ?_) (fun id hid => ?_)
  · unfold Cal.ren1
    rw [if_neg (fun e' => offB_not hq.1.1 (by rw [← e']; exact hid))]
  · unfold Cal.inv1
    rw [if_neg (fun e' => offB_not hq.2 (by rw [← e']; exact hid)), if_neg (fun e' => offB_not hq.1.2 (by rw [← e']; exact hid))]
theorem Keep.body (h : Keep F s0 s) (vs : List AV) : Keep F s0 (s.body vs) := ⟨h.gh, h.ob⟩
theorem Keep.bare (h : Keep F s0 s) : Keep F s0 s.bare := ⟨h.gh, h.ob⟩
theorem Keep.sub {F' : List Nat} (h : Keep F s0 s) (hf : ∀ d ∈ F, d ∈ F') : Keep F' s0 s := ⟨h.gh, fun id hid => h.ob id ⟨hid.1, hid.2.1, fun hm => hid.2.2 (hf _ hm)⟩⟩
end

/-! ### what is forgotten ahead of a call -/
open Classical in
noncomputable def St.only (s : St) (ts : List Nat) (p : Id → Prop) : St where
  tm := fun t => if t ∈ ts then s.tm t else .bad
  ob := fun id => if p id then s.ob id else none
  gh := s.gh
theorem only_ob {s : St} {ts : List Nat} {p : Id → Prop} {id : Id} (h : p id) : (s.only ts p).ob id = s.ob id := by simp only [St.only, if_pos h]
@[simp] theorem only_gh (s : St) (ts : List Nat) (p : Id → Prop) : (s.only ts p).gh = s.gh := rfl
@[simp] theorem only_tm (s : St) (ts : List Nat) (p : Id → Prop) (t : Nat) : (s.only ts p).tm t = if ts.contains t = true then s.tm t else .bad := by simp [St.only]
theorem Weaker.only (s : St) (ts : List Nat) (p : Id → Prop) : Weaker s (s.only ts p) := by
  intro w0 S0 own H X N a w ⟨m, cap, S, h, hH⟩
  have hl : ∀ i o, (s.only ts p).ob i = some o → s.ob i = some o := fun i o hi => by
    simp only [St.only] at hi
    split at hi
    · exact hi
    · cases hi
  have ht : Turn (fun _ => False) m m cap cap s.ob (s.only ts p).ob := by
    refine ⟨fun i _ => ?_, fun i _ => ⟨rfl, rfl⟩⟩
    simp only [St.only]
    split
    · exact Ob.leads_refl _
    · exact Ob.leads_none _
  refine ⟨m, cap, S, ⟨h.size, h.defers, h.after, h.stab, h.base, h.fresh, fun i o hi => ?_, fun i o hi => h.mine i o (hl i o hi), fun i j hi hj he => ?_, fun t => ?_, fun t => ?_⟩, hH⟩
  · exact (h.obs i o (hl i o hi)).keep (Same.refl _ _) (fun _ hb => hb) ht (fun hx => hx) (AV.frees_false _) rfl (fun hx => hx)
  · obtain ⟨o1, h1⟩ := Option.ne_none_iff_exists'.1 hi
    obtain ⟨o2, h2⟩ := Option.ne_none_iff_exists'.1 hj
    exact h.inj i j (by rw [hl i o1 h1]; simp) (by rw [hl j o2 h2]; simp) he
  · simp only [St.only]
    split
    · exact AVrep.keep (Same.refl _ _) (fun _ hb => hb) ht _ _ (AV.free_false _) (h.tm t)
    · unfold AVrep; trivial
  · exact AVrep.keep (Same.refl _ _) (fun _ hb => hb) ht _ _ (AV.free_false _) (h.gh t)

def renL (s : St) : List (Nat × Nat) → St
  | [] => s
  | (d, e) :: l => renL ((s.kill [e]).ren d e) l
@[simp] theorem renL_nil (s : St) : renL s [] = s := rfl
@[simp] theorem renL_cons (s : St) (d e : Nat) (l : List (Nat × Nat)) : renL s ((d, e) :: l) = renL ((s.kill [e]).ren d e) l := rfl
def okL (l : List (Nat × Nat)) : Bool := l.all fun p => decide (p.1 ≠ p.2) && decide (p.1 < base) && decide (p.2 < base)
theorem Weaker.renL : ∀ (l : List (Nat × Nat)) (s : St), okL l = true → Weaker s (renL s l)
  | [], s, _ => Weaker.refl s
  | (d, e) :: l, s, h => by
    unfold okL at h
    rw [List.all_cons] at h
    simp only [Bool.and_eq_true, decide_eq_true_eq] at h
    exact (Weaker.ren s d e h.1.1.1 h.1.1.2 h.1.2).trans (Weaker.renL l _ (by unfold okL; exact h.2))

/-- What stands at a caller's temporaries when a function is entered in line. -/
theorem push_calm {s : St} {E F ts : List Nat} {p : Id → Prop} (h1 : ∀ t ∈ ts, (s.tm t).free fun id => ¬ calm E id) (h2 : ∀ id o, p id → s.ob id = some o → AV.frees (fun id => ¬ calm E id) o.avs) (h3 : ∀ t, (s.gh t).free fun id => ¬ calm E id) : (s.only ts p).push.Calm E F := by
  refine ⟨fun t => ?_, fun id o _ ho => ?_⟩
  · simp only [St.push, St.only]
    split
    · split
      · exact h1 _ (by assumption)
      · unfold AV.free; trivial
    · exact h3 _
  · simp only [St.push, St.only] at ho
    split at ho
    · exact h2 id o (by assumption) ho
    · cases ho

@[simp] theorem push_ob (s : St) : s.push.ob = s.ob := rfl
@[simp] theorem body_ob (s : St) (vs : List AV) : (s.body vs).ob = s.ob := rfl
@[simp] theorem bare_ob (s : St) : s.bare.ob = s.ob := rfl
@[simp] theorem pop0_ob (s : St) : s.pop0.ob = s.ob := rfl
/-- What the caller finds behind a call in line. -/
theorem Keep.pop {F : List Nat} {s s' : St} (h : Keep F s.push s') : Keep F s s'.pop0 ∧ ∀ t, s'.pop0.tm t = s.tm t := by
  refine ⟨⟨fun t => ?_, h.ob⟩, fun t => ?_⟩
  · have := h.gh (2 * t + 1)
    have e1 : ¬ (2 * t + 1) % 2 = 0 := by omega
    have e2 : (2 * t + 1) / 2 = t := by omega
    simp only [St.push, if_neg e1, e2] at this
    exact this
  · have := h.gh (2 * t)
    have e1 : 2 * t % 2 = 0 := by omega
    have e2 : 2 * t / 2 = t := by omega
    simp only [St.push, e1, if_true, e2] at this
    exact this
/-- A call in line: what the caller still needs is given other names, the rest is forgotten. -/
theorem callI_named {P : Program} {d : Option Nat} {st : St} {K : St → Prop} {f : FuncId} {xs : Array Operand} {ts' : Array TypeId} (l : List (Nat × Nat)) (ts : List Nat) (p : Id → Prop) (hl : okL l = true) (hf : enters P f) (vs : List AV) (hvs : xs.toList.map ((renL st l).only ts p).ev = vs)
    (h : Inl P f vs ((renL st l).only ts p).push fun v s => K (s.pop0.put d v)) : CallI P d (.call ⟨.value (.func f), xs, ts'⟩) st K := by
  subst hvs
  exact callI_intro ((Weaker.renL l st hl).trans (Weaker.only _ ts p)) (entersAt_call hf) h

theorem calm_sub {E E' : List Nat} (h : ∀ d ∈ E', d ∈ E) {id : Id} (hc : calm E id) : calm E' id := ⟨hc.1, hc.2.1, fun hm => hc.2.2 (h _ hm)⟩
/-- A function in line calls another one in line: its own objects (own), its callers'. -/
theorem push_frame {s st : St} {E F E' F' ts : List Nat} {own : Id → Prop} (hc : s.Calm E F) (q : Keep F s st) (hs : (E'.all fun d => E.contains d) = true) (h1 : ∀ t ∈ ts, (st.tm t).free fun id => ¬ calm E' id) (h2 : ∀ id o, own id → st.ob id = some o → AV.frees (fun id => ¬ calm E' id) o.avs) : (st.only ts fun id => calm F id ∨ own id).push.Calm E' F' := by
  have hs' : ∀ d ∈ E', d ∈ E := fun d hd => by simpa using List.all_eq_true.1 hs d hd
  refine push_calm h1 (fun id o hp ho => ?_) (fun t => ?_)
  · rcases hp with hp | hp
    · rw [q.ob id hp] at ho
      exact AV.frees_mono (fun id hid hcm => hid (calm_sub hs' hcm)) _ (hc.ob id o hp ho)
    · exact h2 id o hp ho
  · rw [q.gh]
    exact AV.free_mono (fun id hid hcm => hid (calm_sub hs' hcm)) _ (hc.gh t)
theorem keep_back {s st s2 : St} {F F' ts : List Nat} {own : Id → Prop} (q : Keep F s st) (k : Keep F' (st.only ts fun id => calm F id ∨ own id) s2) (hs : (F'.all fun d => F.contains d) = true) : Keep F s s2 := by
  have hs' : ∀ d ∈ F', d ∈ F := fun d hd => by simpa using List.all_eq_true.1 hs d hd
  refine ⟨fun t => ?_, fun id hid => ?_⟩
  · rw [k.gh]
    exact q.gh t
  · rw [k.ob id (calm_sub hs' hid), only_ob (.inl hid)]
    exact q.ob id hid
theorem back_ob {st s2 : St} {F F' ts : List Nat} {own : Id → Prop} (k : Keep F' (st.only ts fun id => calm F id ∨ own id) s2) {id : Id} (ho : own id) (hid : calm F' id) : s2.ob id = st.ob id := by
  rw [k.ob id hid, only_ob (.inr ho)]

/-! ### a region with one call in line -/
@[simp] theorem callIG_none (P : Program) (d : Option Nat) (op : Op) (st : St) (K : St → Prop) : CallIG P ⟨d, op, none⟩ st K = CallI P d op st K := rfl
theorem wpX_of_wpM {P : Program} {lo : List Nat} : ∀ {l : List Op1} {st : St} {K : St → Prop}, wpM P false lo l st K → wpX P lo l st K
  | [], st, K, h => by unfold wpM at h; unfold wpX; exact h
  | o :: l, st, K, h => by
    unfold wpM at h
    unfold wpX
    exact .inl (stepG_mono h fun s hs => wpX_of_wpM hs)
theorem wpX_split {P : Program} {lo : List Nat} {o : Op1} {post : List Op1} {K : St → Prop} : ∀ {pre : List Op1} {st : St}, wpM P false lo pre st (fun s => CallIG P o s fun s' => wpM P false lo post (s'.kill (mk1 post)) K) → wpX P lo (pre ++ o :: post) st K
  | [], st, h => by
    unfold wpM at h
    rw [List.nil_append]
    unfold wpX
    exact .inr (h.mono fun s hs => wpX_of_wpM hs)
  | a :: pre, st, h => by
    unfold wpM at h
    rw [List.cons_append]
    unfold wpX
    exact .inl (stepG_mono h fun s hs => wpX_split hs)
/-- The call at a place of a region, in line. -/
theorem wp2_inl {P : Program} {Q : Ex → St → Prop} {st : St} {mk lo : List Nat} {ops : List Op1} (n : Nat) {o : Op1} (ho : ops[n]? = some o) (h : wpM P false lo (ops.take n) (st.kill mk) (fun s => CallIG P o s fun s' => wpM P false lo (ops.drop (n + 1)) (s'.kill (mk1 (ops.drop (n + 1)))) (Q .normal))) : wp2 P (.region mk false lo ops) Q st := by
  refine wp2_regionX ?_
  have : ops = ops.take n ++ o :: ops.drop (n + 1) := by
    have hlt := (List.getElem?_eq_some_iff.1 ho)
    obtain ⟨h1, h2⟩ := hlt
    subst h2
    rw [List.getElem_cons_drop, List.take_append_drop]
  rw [this]
  exact wpX_split h
/-- An object under another name, ahead of a region. -/
theorem wp2_ren1' {P : Program} {Q : Ex → St → Prop} {st : St} (p q : Id) (hde : (decide (p.1 ≠ q.1) && decide (p.1 < base) && decide (q.1 < base)) = true) {o : Ob} (ho : st.ob p = some o) {mk : List Nat} {dr : Bool} {lo : List Nat} {ops : List Op1} (h : wp2 P (.region mk dr lo ops) Q ((st.kill1 q).renG (ren1 p q) (inv1 p q))) : wp2 P (.region mk dr lo ops) Q st := wp2_rename1 p q hde h
/-! ### stepping through a drawn region with what is to be shown at its appends -/
@[simp] theorem wpMD_nil (P : Program) (lo : List Nat) (pend : PL) (st : St) (K : St → Prop) : wpMD P lo [] pend st K = K st := rfl
attribute [simp] oblO oblV rdA pendO pendV plainV
end Cal

/- A calculus of our own: what is no object stays: a piece of code, begun anew. No program is named here. -/
set_option linter.unusedSimpArgs false
set_option linter.unusedVariables false
namespace Cal
open Go Go.RowKit

section
variable {w0 w w' : World} {S0 S S' : Nat → Prop} {own : List Nat} {H : Nat → Nat × Nat} {X : Nat → Value} {N : Nat} {m cap m' cap' : Id → Nat} {st st' : St} {a a' : Act}
open Classical in
end

/-! ### what code it was -/
theorem comp_region {lo : Nat → List Nat} {c : Code} {mk : List Nat} {dr : Bool} {l : List Nat} {os : List Op1} (h : comp lo c = some (.region mk dr l os)) : ∃ id ops, c = .region id ops dr ∧ comps ops ops.toList = some os := by
  cases c <;> unfold comp at h
  case region id ops dr' =>
    cases ho : comps ops ops.toList with
    | none => simp [ho] at h
    | some os1 =>
      simp only [ho, Option.map_some, Option.some.injEq, Code1.region.injEq] at h
      obtain ⟨_, rfl, _, rfl⟩ := h
      exact ⟨id, ops, rfl, ho⟩
  case seq x y => obtain ⟨_, _, _, _, e⟩ := two_inv h; cases e
  case cond c x y => obtain ⟨_, _, _, _, e⟩ := two_inv h; cases e
  case block id x => cases ho : comp lo x <;> simp [ho] at h
  case loop x => cases ho : comp lo x <;> simp [ho] at h
  all_goals first | (cases h; done) | skip
theorem comp_seq {lo : Nat → List Nat} {c : Code} {a b : Code1} (h : comp lo c = some (.seq a b)) : ∃ x y, c = .seq x y ∧ comp lo x = some a ∧ comp lo y = some b := by
  cases c <;> unfold comp at h
  case region id ops dr' => cases ho : comps ops ops.toList <;> simp [ho] at h
  case seq x y =>
    obtain ⟨_, _, h1, h2, e⟩ := two_inv h
    cases e
    exact ⟨x, y, rfl, h1, h2⟩
  case cond c x y => obtain ⟨_, _, _, _, e⟩ := two_inv h; cases e
  case block id x => cases ho : comp lo x <;> simp [ho] at h
  case loop x => cases ho : comp lo x <;> simp [ho] at h
  all_goals first | (cases h; done) | skip
theorem comp_block {lo : Nat → List Nat} {c : Code} {id : Nat} {a : Code1} (h : comp lo c = some (.block id a)) : ∃ x, c = .block id x ∧ comp lo x = some a := by
  cases c <;> unfold comp at h
  case region id ops dr' => cases ho : comps ops ops.toList <;> simp [ho] at h
  case seq x y => obtain ⟨_, _, _, _, e⟩ := two_inv h; cases e
  case cond c x y => obtain ⟨_, _, _, _, e⟩ := two_inv h; cases e
  case block id x =>
    cases ho : comp lo x with
    | none => simp [ho] at h
    | some k =>
      simp only [ho, Option.map_some, Option.some.injEq, Code1.block.injEq] at h
      obtain ⟨rfl, rfl⟩ := h
      exact ⟨x, rfl, ho⟩
  case loop x => cases ho : comp lo x <;> simp [ho] at h
  all_goals first | (cases h; done) | skip
theorem comp_loop {lo : Nat → List Nat} {c : Code} {a : Code1} (h : comp lo c = some (.loop a)) : ∃ x, c = .loop x ∧ comp lo x = some a := by
  cases c <;> unfold comp at h
  case region id ops dr' => cases ho : comps ops ops.toList <;> simp [ho] at h
  case seq x y => obtain ⟨_, _, _, _, e⟩ := two_inv h; cases e
  case cond c x y => obtain ⟨_, _, _, _, e⟩ := two_inv h; cases e
  case block id x => cases ho : comp lo x <;> simp [ho] at h
  case loop x =>
    cases ho : comp lo x with
    | none => simp [ho] at h
    | some k =>
      simp only [ho, Option.map_some, Option.some.injEq, Code1.loop.injEq] at h
      subst h
      exact ⟨x, rfl, ho⟩
  all_goals first | (cases h; done) | skip
theorem comp_cond {lo : Nat → List Nat} {c : Code} {o : Operand} {a b : Code1} (h : comp lo c = some (.cond o a b)) : ∃ x y, c = .cond o x y ∧ comp lo x = some a ∧ comp lo y = some b := by
  cases c <;> unfold comp at h
  case region id ops dr' => cases ho : comps ops ops.toList <;> simp [ho] at h
  case seq x y => obtain ⟨_, _, _, _, e⟩ := two_inv h; cases e
  case cond c x y =>
    obtain ⟨_, _, h1, h2, e⟩ := two_inv h
    cases e
    exact ⟨x, y, rfl, h1, h2⟩
  case block id x => cases ho : comp lo x <;> simp [ho] at h
  case loop x => cases ho : comp lo x <;> simp [ho] at h
  all_goals first | (cases h; done) | skip
theorem comp_exit {lo : Nat → List Nat} {c : Code} {id : Nat} (h : comp lo c = some (.exit id)) : c = .exit id := by
  cases c <;> unfold comp at h
  case region id ops dr' => cases ho : comps ops ops.toList <;> simp [ho] at h
  case seq x y => obtain ⟨_, _, _, _, e⟩ := two_inv h; cases e
  case cond c x y => obtain ⟨_, _, _, _, e⟩ := two_inv h; cases e
  case block id x => cases ho : comp lo x <;> simp [ho] at h
  case loop x => cases ho : comp lo x <;> simp [ho] at h
  case exit id => cases h; rfl
  all_goals first | (cases h; done) | skip
theorem comp_skip {lo : Nat → List Nat} {c : Code} (h : comp lo c = some .skip) : c = .skip := by
  cases c <;> unfold comp at h
  case region id ops dr' => cases ho : comps ops ops.toList <;> simp [ho] at h
  case seq x y => obtain ⟨_, _, _, _, e⟩ := two_inv h; cases e
  case cond c x y => obtain ⟨_, _, _, _, e⟩ := two_inv h; cases e
  case block id x => cases ho : comp lo x <;> simp [ho] at h
  case loop x => cases ho : comp lo x <;> simp [ho] at h
  case skip => rfl
  all_goals first | (cases h; done) | skip
theorem comps_cons {ops : Array Oper} {l : List Oper} {d : Option Nat} {op : Op} {os : List Op1} (h : comps ops l = some (⟨d, op, none⟩ :: os)) : ∃ o l', l = o :: l' ∧ o.dst = d ∧ o.op = op ∧ o.guard = none ∧ comps ops l' = some os := by
  cases l with
  | nil => unfold comps at h; cases h
  | cons o l' =>
    unfold comps at h
    split at h
    · rename_i x xs hx hxs
      simp only [Option.some.injEq, List.cons.injEq] at h
      obtain ⟨rfl, rfl⟩ := h
      unfold comp1 at hx
      split at hx
      · rename_i hg
        simp only [Option.some.injEq, Op1.mk.injEq] at hx
        exact ⟨o, l', rfl, hx.1, hx.2.1, hg, hxs⟩
      · split at hx
        · simp at hx
        · cases hx
    · cases h
theorem comps_nil {ops : Array Oper} {l : List Oper} (h : comps ops l = some []) : l = [] := by
  cases l with
  | nil => rfl
  | cons o l' =>
    unfold comps at h
    split at h
    · simp at h
    · cases h
end Cal

/- A calculus of our own: calls that are handed a slice that is full; a slice of bytes made of constants. No program is named here. -/
set_option linter.unusedSimpArgs false
set_option linter.unusedVariables false
namespace Cal
open Go Go.RowKit

section
variable {P : Program} {w0 w : World} {S0 S : Nat → Prop} {own : List Nat} {H : Nat → Nat × Nat} {X : Nat → Value} {N : Nat} {m cap : Id → Nat} {st : St} {a : Act}

theorem RelAt.tm0 {v : AV} {t : Nat} (h : RelAt w0 S0 own X N m cap S st a w) (hv : AVrep w S m cap st.ob v (a.tmps.getD t undef)) : RelAt w0 S0 own X N m cap S { st with tm := fun t' => if t' = t then v else st.tm t' } a w := by
  refine ⟨h.size, h.defers, h.after, h.stab, h.base, h.fresh, h.obs, h.mine, h.inj, fun t' => ?_, h.gh⟩
  show AVrep w S m cap st.ob (if t' = t then v else st.tm t') _
  by_cases e : t' = t
  · subst e; rw [if_pos rfl]; exact hv
  · rw [if_neg e]; exact h.tm t'

end
end Cal
