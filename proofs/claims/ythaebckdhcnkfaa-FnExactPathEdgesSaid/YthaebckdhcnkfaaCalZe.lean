/- A calculus of our own, thirtieth part: a function, from its call to its return. No program is named here. -/
import Derived.Test.YthaebckdhcnkfaaCalZd
import Derived.Tactics
set_option linter.unusedSimpArgs false
set_option linter.unusedVariables false
namespace Cal
open Go Go.RowKit

variable {P : Program} {w0 w : World} {S0 S S1 S2 : Nat → Prop} {own : List Nat} {H : Nat → Nat × Nat} {N : Nat} {m cap : Id → Nat} {st st1 st2 : St} {a : Act} {d : Nat} {rg : Rg} {o : Oper} {v : AV} {f : Eff} {p : Id → Prop}

/-! ### results -/
def resA (P : Program) (st : St) : ResultVar → Option AV
  | .tmp t => some (st.tm t)
  | .cell ad t => (tinf P t).bind fun i => loadA st i.agg i.size (st.tm ad)

def pair2 (x y : Option AV) : Option AV := match x, y with
  | some a, some b => some (.tup [a, b])
  | _, _ => none
def pair3 (x y z : Option AV) : Option AV := match x, y, z with
  | some a, some b, some c => some (.tup [a, b, c])
  | _, _, _ => none

def resultA (P : Program) (st : St) : List ResultVar → Option AV
  | [] => some (.tup [])
  | [r] => resA P st r
  | [r, s] => pair2 (resA P st r) (resA P st s)
  | [r, s, t] => pair3 (resA P st r) (resA P st s) (resA P st t)
  | _ => none

def resRun (tmps : Array Value) : ResultVar → Sem Value
  | .tmp t => pure (tmps.getD t undef)
  | .cell ad t => do loadVar t (← asAddr (tmps.getD ad undef))

theorem resA_run (h : RelAt w0 S0 own N m cap S st a w) {r : ResultVar} (hr : resA P st r = some v) : ∃ u, (resRun a.tmps r).run P w = .ok u w ∧ AVrep w S m cap st.ob v u := by
  cases r with
  | tmp t =>
    simp only [resA, Option.some.injEq] at hr
    subst hr
    exact ⟨_, rfl, h.ev (.tmp t)⟩
  | cell ad t =>
    simp only [resA] at hr
    cases hi : tinf P t with
    | none => simp [hi] at hr
    | some i =>
      simp only [hi, Option.bind_some] at hr
      obtain ⟨b, off, us, h1, h2, h3, h4, h5⟩ := loadA_ok h (h.ev (.tmp ad)) hr
      refine ⟨_, ?_, h4⟩
      have h1' : a.tmps.getD ad undef = .pointer (some ⟨b, off, none⟩) := h1
      have := run_loadAt hi b off us h2 h3 h5
      unfold Instr.loadAt Instr.sureAddr at this
      show ((do loadVar t (← asAddr (a.tmps.getD ad undef))) : Sem Value).run P w = _
      rw [h1']
      exact this

theorem result_run (h : RelAt w0 S0 own N m cap S st a w) {fn : Func} (hr : resultA P st fn.results.toList = some v) : ∃ u, (results fn a.tmps).run P w = .ok u w ∧ AVrep w S m cap st.ob v u := by
  have he : results fn a.tmps = (do let vs ← fn.results.mapM (resRun a.tmps); pure (if h : vs.size = 1 then vs[0] else .tuple vs)) := rfl
  rw [he]
  generalize hl : fn.results.toList = l at hr
  have hrs : fn.results = l.toArray := by rw [← hl]
  rw [hrs]
  match l, hr with
  | [], hr =>
    simp only [resultA, Option.some.injEq] at hr
    subst hr
    exact ⟨.tuple #[], by simp, by unfold AVrep; exact ⟨[], rfl, by unfold AVreps; rfl⟩⟩
  | [r], hr =>
    simp only [resultA] at hr
    obtain ⟨u, h1, h2⟩ := resA_run h hr
    exact ⟨u, by simp [h1], h2⟩
  | [r, s], hr =>
    simp only [resultA] at hr
    unfold pair2 at hr
    split at hr
    · rename_i x y hx hy
      cases hr
      obtain ⟨u1, h1, h2⟩ := resA_run h hx
      obtain ⟨u2, h3, h4⟩ := resA_run h hy
      refine ⟨.tuple #[u1, u2], by simp [h1, h3], ?_⟩
      unfold AVrep
      exact ⟨[u1, u2], rfl, by unfold AVreps; exact ⟨_, _, rfl, h2, by unfold AVreps; exact ⟨_, _, rfl, h4, by unfold AVreps; rfl⟩⟩⟩
    · cases hr
  | [r, s, t], hr =>
    simp only [resultA] at hr
    unfold pair3 at hr
    split at hr
    · rename_i x y z hx hy hz
      cases hr
      obtain ⟨u1, h1, h2⟩ := resA_run h hx
      obtain ⟨u2, h3, h4⟩ := resA_run h hy
      obtain ⟨u3, h5, h6⟩ := resA_run h hz
      refine ⟨.tuple #[u1, u2, u3], by simp [h1, h3, h5], ?_⟩
      unfold AVrep
      exact ⟨[u1, u2, u3], rfl, by unfold AVreps; exact ⟨_, _, rfl, h2, by unfold AVreps; exact ⟨_, _, rfl, h4, by unfold AVreps; exact ⟨_, _, rfl, h6, by unfold AVreps; rfl⟩⟩⟩⟩
    · cases hr
  | _ :: _ :: _ :: _ :: _, hr => simp [resultA] at hr

mutual
/-- The objects that are handed back, to be written on. -/
def ownIds (st : St) : AV → List Id
  | .row id _ i n => match st.ob id with
    | some (.row _ es) => if i = 0 ∧ n = es.length then [id] else []
    | _ => []
  | .ptr id _ _ => [id]
  | .agg cs => ownIdss st cs
  | .tup cs => ownIdss st cs
  | _ => []
def ownIdss (st : St) : List AV → List Id
  | [] => []
  | v :: vs => ownIds st v ++ ownIdss st vs
end

mutual
/-- What is handed back to be read. -/
def frzVals (st : St) : AV → List AV
  | .row id sz i n => match st.ob id with
    | some (.row _ es) => if i = 0 ∧ n = es.length then [] else [.row id sz i n]
    | _ => [.row id sz i n]
  | .ptr id _ _ => match st.ob id with
    | some (.var cs) => cs
    | _ => []
  | .agg cs => frzValss st cs
  | .tup cs => frzValss st cs
  | _ => []
def frzValss (st : St) : List AV → List AV
  | [] => []
  | v :: vs => frzVals st v ++ frzValss st vs
end

theorem rv_ids : ∀ (v : AV) {r : RV}, st.toRV v = some r → (∀ id ∈ ownIds st v, st.ob id ≠ none) ∧ ∀ x ∈ frzVals st v, (st.toT x).isSome := by
  intro v
  refine AV.rec (motive_1 := fun v => ∀ {r : RV}, st.toRV v = some r → (∀ id ∈ ownIds st v, st.ob id ≠ none) ∧ ∀ x ∈ frzVals st v, (st.toT x).isSome)
    (motive_2 := fun vs => ∀ {rs : List RV}, st.toRVs vs = some rs → (∀ id ∈ ownIdss st vs, st.ob id ≠ none) ∧ ∀ x ∈ frzValss st vs, (st.toT x).isSome) ?_ ?_ ?_ ?_ ?_ ?_ ?_ ?_ ?_ v
  · intro x r _
    simp [ownIds, frzVals]
  · intro id sz i n r hr
    simp only [St.toRV] at hr
    simp only [ownIds, frzVals]
    cases ho : st.ob id with
    | none => rw [ho] at hr; cases hr
    | some o =>
      cases o with
      | var cs => rw [ho] at hr; cases hr
      | row sz' es =>
        dsimp only
        split
        · simp [ho]
        · simp [St.toT, ho]
      | frz sz' es => simp [St.toT, ho]
  · intro id i j r hr
    simp only [St.toRV] at hr
    simp only [ownIds, frzVals]
    split at hr
    · cases ho : st.ob id with
      | none => rw [ho] at hr; cases hr
      | some o =>
        rw [ho] at hr
        cases o with
        | var cs =>
          dsimp only at hr ⊢
          cases hc : st.toTs cs with
          | none => simp [hc] at hr
          | some xs => exact ⟨by simp [ho], (toTs_some hc).2.1⟩
        | row sz' es => cases hr
        | frz sz' es => cases hr
    · cases hr
  · intro cs r _
    simp [ownIds, frzVals]
  · intro cs ih r hr
    simp only [St.toRV] at hr
    cases hc : st.toRVs cs with
    | none => simp [hc] at hr
    | some xs => simpa only [ownIds, frzVals] using ih hc
  · intro cs ih r hr
    simp only [St.toRV] at hr
    cases hc : st.toRVs cs with
    | none => simp [hc] at hr
    | some xs => simpa only [ownIds, frzVals] using ih hc
  · intro r hr
    simp [ownIds, frzVals]
  · intro rs _
    simp [ownIdss, frzValss]
  · intro v vs ih1 ih2 rs hr
    simp only [St.toRVs] at hr
    split at hr
    · rename_i r rs' h1 h2
      obtain ⟨a1, a2⟩ := ih1 h1
      obtain ⟨b1, b2⟩ := ih2 h2
      simp only [ownIdss, frzValss, List.mem_append]
      exact ⟨fun id hid => hid.elim (a1 id) (b1 id), fun x hx => hx.elim (a2 x) (b2 x)⟩
    · cases hr

theorem treps_creps {b : Nat} {arr : Array Value} {ty : TypeId} {cs : List T} (hb : w.heap[b]? = some (.cells arr ty (0, 0))) (h : Treps w S cs arr.toList) : OwnCells w S b cs := by
  obtain ⟨h1, h2⟩ := Treps_iff.1 h
  have hs : arr.size = cs.length := by rw [← h1, Array.length_toList]
  refine ⟨⟨arr, ty, hb, hs⟩, (creps_cells (m := fun _ => 0) (cap := fun _ => 0) (ob := fun _ => none) hb hs).2 ?_⟩
  rw [AVreps_iff]
  refine ⟨by simp [hs], fun j v u hj hu => ?_⟩
  rw [List.getElem?_map] at hj
  cases hc : cs[j]? with
  | none => simp [hc] at hj
  | some x =>
    simp [hc] at hj
    subst hj
    unfold AVrep
    exact h2 j x u hc hu

/-- What comes back, in memory. st1: what is handed back to be read has been frozen. -/
theorem rv_rep (h1 : RelAt w0 S0 own N m cap S1 st1 a w) (hz : Froze st st1) : ∀ (v : AV) {u : Value} {r : RV}, st.toRV v = some r → AVrep w S1 m cap st1.ob v u → (∀ id sz i n, AV.row id sz i n ∈ frzVals st v → S1 (m id)) → (∀ id ∈ ownIds st v, st1.ob id = st.ob id) →
    RVrep w S1 r u ((ownIds st v).map m) ∧ ∀ id ∈ ownIds st v, ¬ S1 (m id) := by
  intro v
  refine AV.rec (motive_1 := fun v => ∀ {u : Value} {r : RV}, st.toRV v = some r → AVrep w S1 m cap st1.ob v u → (∀ id sz i n, AV.row id sz i n ∈ frzVals st v → S1 (m id)) → (∀ id ∈ ownIds st v, st1.ob id = st.ob id) → RVrep w S1 r u ((ownIds st v).map m) ∧ ∀ id ∈ ownIds st v, ¬ S1 (m id))
    (motive_2 := fun vs => ∀ {us : List Value} {rs : List RV}, st.toRVs vs = some rs → AVreps w S1 m cap st1.ob vs us → (∀ id sz i n, AV.row id sz i n ∈ frzValss st vs → S1 (m id)) → (∀ id ∈ ownIdss st vs, st1.ob id = st.ob id) → RVreps w S1 rs us ((ownIdss st vs).map m) ∧ ∀ id ∈ ownIdss st vs, ¬ S1 (m id)) ?_ ?_ ?_ ?_ ?_ ?_ ?_ ?_ ?_ v
  · intro x u r hr hu _ _
    simp only [St.toRV, Option.some.injEq] at hr
    subst hr
    unfold AVrep at hu
    unfold RVrep
    exact ⟨⟨by simp [ownIds], hu⟩, by simp [ownIds]⟩
  · intro id sz i n u r hr hu hv hs
    have win : ∀ x, st.toT (.row id sz i n) = some x → r = .t x → ownIds st (.row id sz i n) = [] → AV.row id sz i n ∈ frzVals st (.row id sz i n) → RVrep w S1 r u ((ownIds st (.row id sz i n)).map m) ∧ ∀ id' ∈ ownIds st (.row id sz i n), ¬ S1 (m id') := by
      intro x hx hrx ho hm
      subst hrx
      rw [ho]
      refine ⟨?_, by simp⟩
      unfold RVrep
      refine ⟨rfl, ?_⟩
      have ht : Treps w S1 [x] [u] := toTs_rep h1 hz (toTs_one hx) (by unfold AVreps; exact ⟨_, _, rfl, hu, by unfold AVreps; rfl⟩) fun id' sz' i' n' hmem => by
        simp at hmem
        obtain ⟨rfl, rfl, rfl, rfl⟩ := hmem
        exact hv _ _ _ _ hm
      unfold Treps at ht
      exact ht.1
    simp only [St.toRV] at hr
    cases ho : st.ob id with
    | none => rw [ho] at hr; cases hr
    | some o =>
      rw [ho] at hr
      cases o with
      | var cs => cases hr
      | row sz' es =>
        dsimp only at hr
        split at hr
        · rename_i hc
          cases hr
          have hoi : ownIds st (.row id sz i n) = [id] := by simp only [ownIds, ho]; rw [if_pos hc]
          rw [hoi] at hs ⊢
          have ho1 : st1.ob id = some (.row sz' es) := by rw [hs id (by simp), ho]
          obtain ⟨k1, k2⟩ := h1.obs id _ ho1
          unfold AVrep at hu
          obtain ⟨A, c, x1, x2, x3, x4, _, x5⟩ := hu
          obtain ⟨_, _, _, _, x9⟩ := x5 sz' es (.inl ho1)
          obtain ⟨rfl, rfl⟩ := x9 hc.1
          refine ⟨?_, by simpa using k2⟩
          unfold RVrep
          exact ⟨m id, cap id, rfl, by rw [x1, hc.2], k1⟩
        · rename_i hc
          cases hr
          exact win _ (by simp [St.toT, ho]) rfl (by simp only [ownIds, ho]; rw [if_neg hc]) (by simp only [frzVals, ho]; rw [if_neg hc]; simp)
      | frz sz' es =>
        dsimp only at hr
        cases hr
        exact win _ (by simp [St.toT, ho]) rfl (by simp only [ownIds, ho]) (by simp only [frzVals, ho]; simp)
  · intro id i j u r hr hu hv hs
    simp only [St.toRV] at hr
    simp only [ownIds, frzVals] at hs hv ⊢
    split at hr
    · rename_i hij
      obtain ⟨rfl, rfl⟩ := hij
      cases ho : st.ob id with
      | none => rw [ho] at hr; cases hr
      | some o =>
        rw [ho] at hr hv
        cases o with
        | var cs =>
          dsimp only at hr hv
          cases hc : st.toTs cs with
          | none => simp [hc] at hr
          | some xs =>
            simp only [hc, Option.map_some, Option.some.injEq] at hr
            subst hr
            have ho1 : st1.ob id = some (.var cs) := by rw [hs id (by simp), ho]
            obtain ⟨⟨arr, ty, k1, k2⟩, k3⟩ := h1.obs id _ ho1
            unfold AVrep at hu
            obtain ⟨ad, x1, x2, _⟩ := hu
            refine ⟨?_, by simpa using k3⟩
            unfold RVrep
            exact ⟨m id, rfl, by rw [x1, x2 _ ho1 rfl], treps_creps k1 (toTs_rep h1 hz hc k2 hv)⟩
        | row sz' es => cases hr
        | frz sz' es => cases hr
    · cases hr
  · intro cs u r hr
    simp [St.toRV] at hr
  · intro cs ih u r hr hu hv hs
    simp only [St.toRV] at hr
    simp only [ownIds, frzVals] at hs hv ⊢
    cases hc : st.toRVs cs with
    | none => simp [hc] at hr
    | some xs =>
      simp only [hc, Option.map_some, Option.some.injEq] at hr
      subst hr
      unfold AVrep at hu
      obtain ⟨us, hu1, hu2⟩ := hu
      obtain ⟨g1, g2⟩ := ih hc hu2 hv hs
      refine ⟨?_, g2⟩
      unfold RVrep
      exact ⟨us, hu1, g1⟩
  · intro cs ih u r hr hu hv hs
    simp only [St.toRV] at hr
    simp only [ownIds, frzVals] at hs hv ⊢
    cases hc : st.toRVs cs with
    | none => simp [hc] at hr
    | some xs =>
      simp only [hc, Option.map_some, Option.some.injEq] at hr
      subst hr
      unfold AVrep at hu
      obtain ⟨us, hu1, hu2⟩ := hu
      obtain ⟨g1, g2⟩ := ih hc hu2 hv hs
      refine ⟨?_, g2⟩
      unfold RVrep
      exact ⟨us, hu1, g1⟩
  · intro u r hr
    simp [St.toRV] at hr
  · intro us rs hr hu _ _
    simp only [St.toRVs, Option.some.injEq] at hr
    subst hr
    unfold AVreps at hu
    unfold RVreps
    exact ⟨⟨hu, by simp [ownIdss]⟩, by simp [ownIdss]⟩
  · intro v vs ih1 ih2 us rs hr hu hv hs
    simp only [St.toRVs] at hr
    split at hr
    · rename_i r rs' e1 e2
      cases hr
      unfold AVreps at hu
      obtain ⟨u, us', rfl, hu1, hu2⟩ := hu
      simp only [ownIdss, frzValss, List.mem_append] at hs hv ⊢
      obtain ⟨a1, a2⟩ := ih1 e1 hu1 (fun id sz i n hm => hv id sz i n (.inl hm)) (fun id hid => hs id (.inl hid))
      obtain ⟨b1, b2⟩ := ih2 e2 hu2 (fun id sz i n hm => hv id sz i n (.inr hm)) (fun id hid => hs id (.inr hid))
      refine ⟨?_, fun id hid => hid.elim (a2 id) (b2 id)⟩
      unfold RVreps
      exact ⟨u, us', _, _, rfl, by rw [List.map_append], a1, b1⟩
    · cases hr

/-! ### arguments -/
def Arg.mut : Arg → Bool
  | .mrow .. => true
  | .mvar _ => true
  | _ => false

/-- The arguments' blocks, the k-th argument's first. -/
def homes (g : Nat → Nat × Nat) : Nat → List Arg → List (Nat × Nat)
  | _, [] => []
  | k, b :: as => if b.mut = true then g k :: homes g (k + 1) as else homes g (k + 1) as

theorem homes_congr {g g' : Nat → Nat × Nat} : ∀ {k k' : Nat} {as : List Arg}, (∀ i, g (k + i) = g' (k' + i)) → homes g k as = homes g' k' as
  | k, k', [], _ => rfl
  | k, k', b :: as, h => by
    unfold homes
    have h0 : g k = g' k' := h 0
    rw [h0, homes_congr (k := k + 1) (k' := k' + 1) (as := as) fun i => by
      have := h (1 + i)
      rw [Nat.add_assoc, Nat.add_assoc]
      exact this]

theorem argsRep_at : ∀ {as : List Arg} {us : List Value} {ab : List (Nat × Nat)}, ArgsRep w S as us ab → ∃ g : Nat → Nat × Nat, us.length = as.length ∧ (∀ k b, as[k]? = some b → ∃ u, us[k]? = some u ∧ ArgRep w S b u (if b.mut = true then [g k] else [])) ∧ homes g 0 as = ab
  | [], us, ab, h => by
    unfold ArgsRep at h
    obtain ⟨rfl, rfl⟩ := h
    exact ⟨fun _ => (0, 0), rfl, fun k b hb => by simp at hb, rfl⟩
  | b :: as, us, ab, h => by
    unfold ArgsRep at h
    obtain ⟨u, us', b1, b2, rfl, rfl, h1, h2⟩ := h
    obtain ⟨g, g1, g2, g3⟩ := argsRep_at h2
    have hb1 : b1 = if b.mut = true then [b1.headD (0, 0)] else [] := by
      cases b with
      | val x => exact h1.1
      | agg xs => exact h1.1
      | mrow sz es => obtain ⟨bb, c, rfl, _⟩ := h1; rfl
      | mvar cs => obtain ⟨bb, rfl, _⟩ := h1; rfl
    refine ⟨fun k => if k = 0 then b1.headD (0, 0) else g (k - 1), by simp [g1], fun k b' hb' => ?_, ?_⟩
    · cases k with
      | zero =>
        simp at hb'
        subst hb'
        refine ⟨u, rfl, ?_⟩
        simp only [if_true]
        rw [← hb1]
        exact h1
      | succ k => simpa using g2 k b' (by simpa using hb')
    · unfold homes
      have e : homes (fun k => if k = 0 then b1.headD (0, 0) else g (k - 1)) 1 as = b2 := by
        rw [← g3]
        exact homes_congr fun i => by simp [Nat.add_comm 1 i]
      rw [Nat.zero_add, e]
      rw [hb1]
      cases b.mut <;> simp

theorem homes_mem {g : Nat → Nat × Nat} : ∀ {k : Nat} {as : List Arg} {i : Nat} {b : Arg}, as[i]? = some b → b.mut = true → g (k + i) ∈ homes g k as
  | k, [], i, b, h, _ => by simp at h
  | k, c :: as, 0, b, h, hm => by
    simp at h
    subst h
    unfold homes
    rw [if_pos hm]
    simp
  | k, c :: as, i + 1, b, h, hm => by
    have := homes_mem (g := g) (k := k + 1) (i := i) (b := b) (as := as) (by simpa using h) hm
    rw [show k + (i + 1) = k + 1 + i by omega]
    unfold homes
    split
    · simp [this]
    · exact this

theorem homes_inj {g : Nat → Nat × Nat} : ∀ {k : Nat} {as : List Arg} {i j : Nat} {b c : Arg}, ((homes g k as).map (·.1)).Nodup → as[i]? = some b → b.mut = true → as[j]? = some c → c.mut = true → (g (k + i)).1 = (g (k + j)).1 → i = j
  | k, [], i, j, b, c, _, h, _, _, _, _ => by simp at h
  | k, x :: as, i, j, b, c, hn, hi, hb, hj, hc, he => by
    unfold homes at hn
    have tail : ((homes g (k + 1) as).map (·.1)).Nodup := by
      split at hn
      · rw [List.map_cons, List.nodup_cons] at hn; exact hn.2
      · exact hn
    have clash : ∀ {l : Nat} {c : Arg}, x.mut = true → as[l]? = some c → c.mut = true → (g k).1 = (g (k + 1 + l)).1 → False := by
      intro l c hx hl hc he
      rw [if_pos hx, List.map_cons, List.nodup_cons] at hn
      exact hn.1 (he ▸ List.mem_map.2 ⟨_, homes_mem hl hc, rfl⟩)
    cases i with
    | zero =>
      cases j with
      | zero => rfl
      | succ j =>
        simp at hi
        subst hi
        exact (clash (l := j) hb (by simpa using hj) hc (by rw [show k + 1 + j = k + (j + 1) by omega]; exact he)).elim
    | succ i =>
      cases j with
      | zero =>
        simp at hj
        subst hj
        exact (clash (l := i) hc (by simpa using hi) hb (by rw [show k + 1 + i = k + (i + 1) by omega]; exact he.symm)).elim
      | succ j =>
        have := homes_inj (k := k + 1) (i := i) (j := j) tail (by simpa using hi) hb (by simpa using hj) hc (by rw [show k + 1 + i = k + (i + 1) by omega, show k + 1 + j = k + (j + 1) by omega]; exact he)
        omega

/-- When a function is entered. -/
theorem enter_rel {as : List Arg} {us : List Value} {ab : List (Nat × Nat)} (hS : ∀ b, S b → b < w.heap.size) (h : ArgsRep w S as us ab) (hn : (ab.map (·.1)).Nodup) (hlt : ∀ b ∈ ab.map (·.1), b < w.heap.size) (hN : as.length ≤ N) :
    ∃ g, homes g 0 as = ab ∧ Rel w S (ab.map (·.1)) g N (St.enter as) { tmps := us.toArray ++ Array.replicate (N - us.toArray.size) undef, defers := [] } w := by
  obtain ⟨g, g1, g2, g3⟩ := argsRep_at h
  refine ⟨g, g3, fun id => if base ≤ id.1 ∧ id.2 = 0 then (g (id.1 - base)).1 else 0, fun id => if base ≤ id.1 ∧ id.2 = 0 then (g (id.1 - base)).2 else 0, S, ?_, fun k => by simp⟩
  have hob : ∀ id o, (St.enter as).ob id = some o → ∃ k b, id = (base + k, 0) ∧ as[k]? = some b ∧ ((∃ sz es, b = .mrow sz es ∧ o = .row sz es) ∨ ∃ cs, b = .mvar cs ∧ o = .var (cs.map .t)) := by
    intro id o ho
    simp only [St.enter] at ho
    split at ho
    · rename_i hid
      have hide : id = (base + (id.1 - base), 0) := Prod.ext_iff.2 ⟨(Nat.add_sub_cancel' hid.1).symm, hid.2⟩
      cases hb : as[id.1 - base]? with
      | none => rw [hb] at ho; cases ho
      | some b =>
        rw [hb] at ho
        refine ⟨id.1 - base, b, hide, hb, ?_⟩
        cases b with
        | mrow sz es => cases ho; exact .inl ⟨_, _, rfl, rfl⟩
        | mvar cs => cases ho; exact .inr ⟨_, rfl, rfl⟩
        | val _ => cases ho
        | agg _ => cases ho
    · cases ho
  have hsz : us.toArray.size = us.length := by simp
  refine ⟨by simp; omega, rfl, ⟨rfl, rfl, rfl, Nat.le_refl _, fun _ _ _ => rfl⟩, hS, fun _ hb => hb, fun _ hb => .inl hb, fun id o ho => ?_, fun id o ho => ?_, fun id id' h1 h2 he => ?_, fun t ht => ?_, fun t ht => ?_⟩
  · obtain ⟨k, b, rfl, hb, hc⟩ := hob id o ho
    obtain ⟨u, hu, hr⟩ := g2 k b hb
    rcases hc with ⟨sz, es, rfl, rfl⟩ | ⟨cs, rfl, rfl⟩
    · obtain ⟨bb, c, e1, e2, e3, e4⟩ := hr
      simp [Arg.mut] at e1
      unfold ObRep
      simp only [Nat.le_add_right, true_and, if_true, Nat.add_sub_cancel_left, e1]
      exact ⟨e3, e4⟩
    · obtain ⟨bb, e1, e2, ⟨⟨arr, ty, e3, e4⟩, e5⟩, e6⟩ := hr
      simp [Arg.mut] at e1
      unfold ObRep
      simp only [Nat.le_add_right, true_and, if_true, Nat.add_sub_cancel_left, e1]
      exact ⟨⟨arr, ty, e3, (creps_cells e3 e4).1 e5⟩, e6⟩
  · obtain ⟨k, b, rfl, hb, hc⟩ := hob id o ho
    right
    simp only [Nat.le_add_right, true_and, if_true, Nat.add_sub_cancel_left]
    rw [← g3]
    refine List.mem_map.2 ⟨g k, ?_, rfl⟩
    have := homes_mem (g := g) (k := 0) hb (by rcases hc with ⟨_, _, rfl, _⟩ | ⟨_, rfl, _⟩ <;> rfl)
    simpa using this
  · obtain ⟨o1, h1⟩ := Option.ne_none_iff_exists'.1 h1
    obtain ⟨o2, h2⟩ := Option.ne_none_iff_exists'.1 h2
    obtain ⟨k1, b1, rfl, hb1, hc1⟩ := hob id o1 h1
    obtain ⟨k2, b2, rfl, hb2, hc2⟩ := hob id' o2 h2
    simp only [Nat.le_add_right, true_and, if_true, Nat.add_sub_cancel_left] at he
    have := homes_inj (g := g) (k := 0) (by rw [g3]; exact hn) hb1 (by rcases hc1 with ⟨_, _, rfl, _⟩ | ⟨_, rfl, _⟩ <;> rfl) hb2 (by rcases hc2 with ⟨_, _, rfl, _⟩ | ⟨_, rfl, _⟩ <;> rfl) (by simpa using he)
    rw [this]
  · simp only [St.enter]
    cases hb : as[t]? with
    | none => unfold AVrep; trivial
    | some b =>
      obtain ⟨u, hu, hr⟩ := g2 t b hb
      have htu := (List.getElem?_eq_some_iff.1 hu).1
      have hget : (us.toArray ++ Array.replicate (N - us.toArray.size) undef).getD t undef = u := by
        rw [Array.getD_eq_getD_getElem?, Array.getElem?_append_left (by simpa using htu)]
        simp [hu]
      rw [hget]
      cases b with
      | val x => unfold AVrep; exact hr.2
      | agg xs =>
        obtain ⟨_, us', e1, e2⟩ := hr
        unfold AVrep
        refine ⟨us', e1, ?_⟩
        rw [AVreps_iff]
        obtain ⟨f1, f2⟩ := Treps_iff.1 e2
        refine ⟨by simp [f1], fun j v u hj hu => ?_⟩
        rw [List.getElem?_map] at hj
        cases hc : xs[j]? with
        | none => simp [hc] at hj
        | some x =>
          simp [hc] at hj
          subst hj
          unfold AVrep
          exact f2 j x u hc hu
      | mrow sz es =>
        obtain ⟨bb, c, e1, e2, e3, e4⟩ := hr
        simp [Arg.mut] at e1
        have hob1 : (St.enter as).ob (base + t, 0) = some (.row sz es) := by simp [St.enter, hb]
        have := AVrep_row (w := w) (S := S) (m := fun id : Id => if base ≤ id.1 ∧ id.2 = 0 then (g (id.1 - base)).1 else 0) (cap := fun id : Id => if base ≤ id.1 ∧ id.2 = 0 then (g (id.1 - base)).2 else 0) (ob := (St.enter as).ob) (id := (base + t, 0)) (sz := sz) (es := es) hob1 (by simp [e1]; exact e3.2.1) (by simp [e1]; exact e3.2.2.1)
        simp [e1] at this
        rw [e2]
        simpa [St.enter] using this
      | mvar cs =>
        obtain ⟨bb, e1, e2, e3, e4⟩ := hr
        simp [Arg.mut] at e1
        unfold AVrep
        refine ⟨_, e2, fun cs' hcs _ => by simp [e1], fun sz es hes => ?_⟩
        simp [hb] at hes
  · simp only [St.enter]
    rw [List.getElem?_eq_none (by omega)]

/-! ### what the arguments' objects are when the function returns -/
def backOne (st : St) (k : Nat) : Option Arg → Prop
  | none => True
  | some (.mrow sz es) => st.ob (base + k, 0) = some (.row sz es)
  | some (.mvar cs) => ∃ avs, st.ob (base + k, 0) = some (.var avs) ∧ st.toTs avs = some cs
  | some _ => False

def backs (st : St) : Nat → List Arg → List (Option Arg) → Prop
  | _, [], [] => True
  | k, .val _ :: as, os => backs st (k + 1) as os
  | k, .agg _ :: as, os => backs st (k + 1) as os
  | k, .mrow _ _ :: as, o :: os => backOne st k o ∧ backs st (k + 1) as os
  | k, .mvar _ :: as, o :: os => backOne st k o ∧ backs st (k + 1) as os
  | _, _, _ => False

def outIds : Nat → List Arg → List (Option Arg) → List Id
  | k, .val _ :: as, os => outIds (k + 1) as os
  | k, .agg _ :: as, os => outIds (k + 1) as os
  | k, .mrow _ _ :: as, some _ :: os => (base + k, 0) :: outIds (k + 1) as os
  | k, .mvar _ :: as, some _ :: os => (base + k, 0) :: outIds (k + 1) as os
  | k, .mrow _ _ :: as, none :: os => outIds (k + 1) as os
  | k, .mvar _ :: as, none :: os => outIds (k + 1) as os
  | _, _, _ => []

def outOne (st : St) (k : Nat) : Option Arg → List AV
  | some (.mvar _) => match st.ob (base + k, 0) with
    | some (.var avs) => avs
    | _ => []
  | _ => []

def outVals (st : St) : Nat → List Arg → List (Option Arg) → List AV
  | k, .val _ :: as, os => outVals st (k + 1) as os
  | k, .agg _ :: as, os => outVals st (k + 1) as os
  | k, .mrow _ _ :: as, o :: os => outOne st k o ++ outVals st (k + 1) as os
  | k, .mvar _ :: as, o :: os => outOne st k o ++ outVals st (k + 1) as os
  | _, _, _ => []

theorem backOne_ids {k : Nat} {x : Option Arg} (h : backOne st k x) : (x ≠ none → st.ob (base + k, 0) ≠ none) ∧ ∀ y ∈ outOne st k x, (st.toT y).isSome := by
  cases x with
  | none => simp [outOne]
  | some b =>
    cases b with
    | mrow sz es =>
      unfold backOne at h
      simp [outOne, h]
    | mvar cs =>
      obtain ⟨avs, h1, h2⟩ := h
      simp only [outOne, h1]
      exact ⟨by simp, (toTs_some h2).2.1⟩
    | val _ => exact h.elim
    | agg _ => exact h.elim

theorem back_ids : ∀ {k : Nat} {as : List Arg} {outs : List (Option Arg)}, backs st k as outs → (∀ id ∈ outIds k as outs, st.ob id ≠ none) ∧ ∀ x ∈ outVals st k as outs, (st.toT x).isSome
  | k, [], [], _ => by simp [outIds, outVals]
  | k, [], _ :: _, h => by simp [backs] at h
  | k, .val _ :: as, os, h => by
    simp only [backs] at h
    simpa only [outIds, outVals] using back_ids h
  | k, .agg _ :: as, os, h => by
    simp only [backs] at h
    simpa only [outIds, outVals] using back_ids h
  | k, .mrow _ _ :: as, [], h => by simp [backs] at h
  | k, .mvar _ :: as, [], h => by simp [backs] at h
  | k, .mrow _ _ :: as, x :: os, h => by
    simp only [backs] at h
    obtain ⟨a1, a2⟩ := backOne_ids h.1
    obtain ⟨b1, b2⟩ := back_ids h.2
    simp only [outVals, List.mem_append]
    refine ⟨fun id hid => ?_, fun y hy => hy.elim (a2 y) (b2 y)⟩
    cases x with
    | none => exact b1 id (by simpa only [outIds] using hid)
    | some b =>
      simp only [outIds, List.mem_cons] at hid
      rcases hid with rfl | hid
      · exact a1 (by simp)
      · exact b1 id hid
  | k, .mvar _ :: as, x :: os, h => by
    simp only [backs] at h
    obtain ⟨a1, a2⟩ := backOne_ids h.1
    obtain ⟨b1, b2⟩ := back_ids h.2
    simp only [outVals, List.mem_append]
    refine ⟨fun id hid => ?_, fun y hy => hy.elim (a2 y) (b2 y)⟩
    cases x with
    | none => exact b1 id (by simpa only [outIds] using hid)
    | some b =>
      simp only [outIds, List.mem_cons] at hid
      rcases hid with rfl | hid
      · exact a1 (by simp)
      · exact b1 id hid

theorem backOne_rep (h1 : RelAt w0 S0 own N m cap S1 st1 a w) (hz : Froze st st1) {g : Nat × Nat} {k : Nat} (hg : m (base + k, 0) = g.1 ∧ cap (base + k, 0) = g.2) {x : Option Arg} (h : backOne st k x) (hs : x ≠ none → st1.ob (base + k, 0) = st.ob (base + k, 0))
    (hv : ∀ id sz i n, AV.row id sz i n ∈ outOne st k x → S1 (m id)) : OutRep w S1 g x := by
  cases x with
  | none => trivial
  | some b =>
    cases b with
    | mrow sz es =>
      unfold backOne at h
      have ho1 : st1.ob (base + k, 0) = some (.row sz es) := by rw [hs (by simp), h]
      obtain ⟨k1, k2⟩ := h1.obs _ _ ho1
      rw [hg.1] at k1 k2
      rw [hg.2] at k1
      exact ⟨k1, k2⟩
    | mvar cs =>
      obtain ⟨avs, h2, h3⟩ := h
      have ho1 : st1.ob (base + k, 0) = some (.var avs) := by rw [hs (by simp), h2]
      obtain ⟨⟨arr, ty, k1, k2⟩, k3⟩ := h1.obs _ _ ho1
      rw [hg.1] at k1 k3
      simp only [outOne, h2] at hv
      exact ⟨treps_creps k1 (toTs_rep h1 hz h3 k2 hv), k3⟩
    | val _ => exact h.elim
    | agg _ => exact h.elim

theorem back_rep (h1 : RelAt w0 S0 own N m cap S1 st1 a w) (hz : Froze st st1) {g : Nat → Nat × Nat} (hg : ∀ k, m (base + k, 0) = (g k).1 ∧ cap (base + k, 0) = (g k).2) : ∀ {k : Nat} {as : List Arg} {outs : List (Option Arg)}, backs st k as outs → (∀ id ∈ outIds k as outs, st1.ob id = st.ob id) →
    (∀ id sz i n, AV.row id sz i n ∈ outVals st k as outs → S1 (m id)) → OutReps w S1 (homes g k as) outs ∧ liveOuts (homes g k as) outs = (outIds k as outs).map m
  | k, [], [], _, _, _ => by simp [homes, OutReps, liveOuts, outIds]
  | k, [], _ :: _, h, _, _ => by simp [backs] at h
  | k, .val _ :: as, os, h, hs, hv => by
    simp only [backs] at h
    simp only [outIds, outVals] at hs hv ⊢
    have := back_rep h1 hz hg h hs hv
    unfold homes
    simpa [Arg.mut] using this
  | k, .agg _ :: as, os, h, hs, hv => by
    simp only [backs] at h
    simp only [outIds, outVals] at hs hv ⊢
    have := back_rep h1 hz hg h hs hv
    unfold homes
    simpa [Arg.mut] using this
  | k, .mrow _ _ :: as, [], h, _, _ => by simp [backs] at h
  | k, .mvar _ :: as, [], h, _, _ => by simp [backs] at h
  | k, .mrow sz es :: as, x :: os, h, hs, hv => by
    simp only [backs] at h
    simp only [outVals, List.mem_append] at hv
    have hh : homes g k (.mrow sz es :: as) = g k :: homes g (k + 1) as := by rw [homes]; simp [Arg.mut]
    rw [hh]
    have r1 := backOne_rep h1 hz (hg k) h.1 (fun hne => hs _ (by cases x with | none => exact absurd rfl hne | some b => simp [outIds])) (fun id sz i n hm => hv id sz i n (.inl hm))
    obtain ⟨r2, r3⟩ := back_rep h1 hz hg h.2 (fun id hid => hs id (by cases x with | none => simpa only [outIds] using hid | some b => simp [outIds, hid])) (fun id sz i n hm => hv id sz i n (.inr hm))
    unfold OutReps
    refine ⟨⟨r1, r2⟩, ?_⟩
    cases x with
    | none => simpa only [liveOuts, outIds] using r3
    | some b => simp only [liveOuts, outIds, List.map_cons, r3, (hg k).1]
  | k, .mvar cs :: as, x :: os, h, hs, hv => by
    simp only [backs] at h
    simp only [outVals, List.mem_append] at hv
    have hh : homes g k (.mvar cs :: as) = g k :: homes g (k + 1) as := by rw [homes]; simp [Arg.mut]
    rw [hh]
    have r1 := backOne_rep h1 hz (hg k) h.1 (fun hne => hs _ (by cases x with | none => exact absurd rfl hne | some b => simp [outIds])) (fun id sz i n hm => hv id sz i n (.inl hm))
    obtain ⟨r2, r3⟩ := back_rep h1 hz hg h.2 (fun id hid => hs id (by cases x with | none => simpa only [outIds] using hid | some b => simp [outIds, hid])) (fun id sz i n hm => hv id sz i n (.inr hm))
    unfold OutReps
    refine ⟨⟨r1, r2⟩, ?_⟩
    cases x with
    | none => simpa only [liveOuts, outIds] using r3
    | some b => simp only [liveOuts, outIds, List.map_cons, r3, (hg k).1]

/-- A function's end: its result, its arguments' objects. -/
def Back (P : Program) (rs : List ResultVar) (as : List Arg) (res : RV) (outs : List (Option Arg)) (st : St) : Prop :=
  ∃ v, resultA P st rs = some v ∧ st.toRV v = some res ∧ backs st 0 as outs ∧ (ownIds st v ++ outIds 0 as outs).Nodup ∧ ∀ id ∈ ownIds st v ++ outIds 0 as outs, noRow id (frzVals st v ++ outVals st 0 as outs) = true

/-- Code comes to its end. -/
def Fin (K : St → Prop) : Ex → St → Prop
  | .exit _, _ => False
  | _, s => K s
@[simp] theorem Fin_normal (K : St → Prop) (s : St) : Fin K .normal s = K s := rfl
@[simp] theorem Fin_ret (K : St → Prop) (s : St) : Fin K .ret s = K s := rfl
@[simp] theorem Fin_exit (K : St → Prop) (s : St) (i : Nat) : Fin K (.exit i) s = False := rfl

theorem back_post {fn : Func} {as : List Arg} {res : RV} {outs : List (Option Arg)} {g : Nat → Nat × Nat} (hr : Rel w0 S0 ((homes g 0 as).map (·.1)) g N st a w) (hb : Back P fn.results.toList as res outs st) : bodyPost P fn (Post w0 S0 (homes g 0 as) res outs) .ret a w := by
  obtain ⟨v, b1, b2, b3, b4, b5⟩ := hb
  obtain ⟨m, cap, S, hr, hg⟩ := hr
  obtain ⟨u, u1, u2⟩ := result_run hr b1
  obtain ⟨i1, i2⟩ := rv_ids v b2
  obtain ⟨j1, j2⟩ := back_ids b3
  obtain ⟨S1, r1, q1, z1, v1⟩ := freeze_all hr (frzVals st v ++ outVals st 0 as outs) (Froze.refl st) (fun x hx => by
    rcases List.mem_append.1 hx with hx | hx
    · exact i2 x hx
    · exact j2 x hx)
  have hsame : ∀ id ∈ ownIds st v ++ outIds 0 as outs, (st.eff (st.frzEffs (frzVals st v ++ outVals st 0 as outs))).ob id = st.ob id := fun id hid => frz_other (b5 id hid) st
  have u2' : AVrep w S1 m cap (st.eff (st.frzEffs (frzVals st v ++ outVals st 0 as outs))).ob v u := by
    refine AVrep.keep (p := fun _ => False) (Same.refl _ _) q1 ⟨fun i _ => ?_, fun i _ => ⟨rfl, rfl⟩⟩ _ _ (AV.free_false _) u2
    rcases z1.2 i with e1 | ⟨sz', es', e1, e2⟩
    · rw [e1]; exact Ob.leads_refl _
    · rw [e2]; rcases e1 with e1 | e1 <;> rw [e1] <;> exact ⟨rfl, rfl⟩
  obtain ⟨c1, c2⟩ := rv_rep r1 z1 v b2 u2' (fun id sz i n hm => v1 id sz i n (List.mem_append_left _ hm)) (fun id hid => hsame id (List.mem_append_left _ hid))
  obtain ⟨d1, d2⟩ := back_rep r1 z1 hg b3 (fun id hid => hsame id (List.mem_append_right _ hid)) (fun id sz i n hm => v1 id sz i n (List.mem_append_right _ hm))
  have hlive : ∀ id ∈ ownIds st v ++ outIds 0 as outs, st.ob id ≠ none := fun id hid => by
    rcases List.mem_append.1 hid with hid | hid
    · exact i1 id hid
    · exact j1 id hid
  refine ⟨hr.defers, u, u1, u, S1, (ownIds st v).map m, rfl, r1.after, r1.base, fun b hb => ⟨r1.stab b hb, r1.fresh b hb⟩, c1, ?_, fun b hb => ?_, d1⟩
  · rw [d2, ← List.map_append]
    unfold List.Nodup
    rw [List.pairwise_map]
    exact List.Pairwise.imp_of_mem (fun {x y} hx hy hne he => hne (hr.inj x y (hlive x hx) (hlive y hy) he)) b4
  · obtain ⟨id, hid, rfl⟩ := List.mem_map.1 hb
    obtain ⟨o', ho'⟩ := Option.ne_none_iff_exists'.1 (i1 id hid)
    exact ⟨c2 id hid, (hr.obs id o' ho').lt, hr.mine id o' ho'⟩

/-- A contract, by the calculus. -/
theorem callsF_of_wp {f : FuncId} {fn : Func} {c : Code} (lo : Nat → List Nat) (hm : P.follows .mixedOrders = true) (hf : P.funcs[f]? = some fn) (hb : fn.body = some c) (hname : (fn.name == "runtime.NumGoroutine") = false) (hok : (decide (fn.ntmps ≤ base) && okCode fn.ntmps lo c) = true)
    {as : List Arg} {res : RV} {outs : List (Option Arg)} (hlen : as.length ≤ fn.ntmps) (hlike : Arg.like as outs) (hwp : wpC P lo c (Fin (Back P fn.results.toList as res outs)) (St.enter as)) : CallsF P f as res outs := by
  simp only [Bool.and_eq_true, decide_eq_true_eq] at hok
  refine ⟨⟨fn, hf, hname, by rw [hb]; rfl⟩, hlike, fun w S us usF ab hS hfl harg hn hlt => ?_⟩
  obtain rfl := flatU_nones _ _ _ hfl
  obtain ⟨g, rfl, hr⟩ := enter_rel hS harg hn hlt hlen
  refine calls_of_wp hf hb (wp_mono (code_sound hm hok.1 lo c hok.2 hr hwp) fun e a' w' he => ?_)
  cases e with
  | normal =>
    obtain ⟨st, h1, h2⟩ := he
    exact back_post h1 h2
  | ret =>
    obtain ⟨st, h1, h2⟩ := he
    exact back_post h1 h2
  | exit i =>
    obtain ⟨st, h1, h2⟩ := he
    exact h2.elim
  | goto l => exact he.elim
  | panic c => exact he.elim
  | outgrown => exact he.elim

end Cal
