/- A part of the proof: a calculus of our own over the model's code, and contracts of the program's functions. -/
import Derived.Tactics
import Derived.Test.YthaebckdhcnkfaaG5
/- A calculus of our own, thirtieth part: a function, from its call to its return. No program is named here. -/
set_option linter.unusedSimpArgs false
set_option linter.unusedVariables false
namespace Cal
open Go Go.RowKit

variable {P : Program} {w0 w : World} {S0 S S1 S2 : Nat → Prop} {own : List Nat} {H : Nat → Nat × Nat} {N : Nat} {m cap : Id → Nat} {st st1 st2 : St} {a : Act} {d : Nat} {rg : Rg} {o : Oper} {v : AV} {f : Eff} {p : Id → Prop}

/-! ### results -/
def resA (P : Program) (st : St) : ResultVar → Option AV
  | .tmp t => some (st.tm t)
  | .cell ad t => (tinf P t).bind fun i => loadA st i.agg i.size (st.tm ad)

def pair2 (x y : Option AV) : Option AV := match x, y with
  | some a, some b => some (.tup [a, b])
  | _, _ => none
def pair3 (x y z : Option AV) : Option AV := match x, y, z with
  | some a, some b, some c => some (.tup [a, b, c])
  | _, _, _ => none

def resultA (P : Program) (st : St) : List ResultVar → Option AV
  | [] => some (.tup [])
  | [r] => resA P st r
  | [r, s] => pair2 (resA P st r) (resA P st s)
  | [r, s, t] => pair3 (resA P st r) (resA P st s) (resA P st t)
  | _ => none

def resRun (tmps : Array Value) : ResultVar → Sem Value
  | .tmp t => pure (tmps.getD t undef)
  | .cell ad t => do loadVar t (← asAddr (tmps.getD ad undef))

theorem resA_run (h : RelAt w0 S0 own N m cap S st a w) {r : ResultVar} (hr : resA P st r = some v) : ∃ u, (resRun a.tmps r).run P w = .ok u w ∧ AVrep w S m cap st.ob v u := by
  cases r with
  | tmp t =>
    simp only [resA, Option.some.injEq] at hr
    subst hr
    exact ⟨_, rfl, h.ev (.tmp t)⟩
  | cell ad t =>
    simp only [resA] at hr
    cases hi : tinf P t with
    | none => simp [hi] at hr
    | some i =>
      simp only [hi, Option.bind_some] at hr
      obtain ⟨b, off, us, h1, h2, h3, h4, h5⟩ := loadA_ok h (h.ev (.tmp ad)) hr
      refine ⟨_, ?_, h4⟩
      have h1' : a.tmps.getD ad undef = .pointer (some ⟨b, off, none⟩) := h1
      have := run_loadAt hi b off us h2 h3 h5
      unfold Instr.loadAt Instr.sureAddr at this
      show ((do loadVar t (← asAddr (a.tmps.getD ad undef))) : Sem Value).run P w = _
      rw [h1']
      exact this

theorem result_run (h : RelAt w0 S0 own N m cap S st a w) {fn : Func} (hr : resultA P st fn.results.toList = some v) : ∃ u, (results fn a.tmps).run P w = .ok u w ∧ AVrep w S m cap st.ob v u := by
  have he : results fn a.tmps = (do let vs ← fn.results.mapM (resRun a.tmps); pure (if h : vs.size = 1 then vs[0] else .tuple vs)) := rfl
  rw [he]
  generalize hl : fn.results.toList = l at hr
  have hrs : fn.results = l.toArray := by rw [← hl]
  rw [hrs]
  match l, hr with
  | [], hr =>
    simp only [resultA, Option.some.injEq] at hr
    subst hr
    exact ⟨.tuple #[], by simp, by unfold AVrep; exact ⟨[], rfl, by unfold AVreps; rfl⟩⟩
  | [r], hr =>
    simp only [resultA] at hr
    obtain ⟨u, h1, h2⟩ := resA_run h hr
    exact ⟨u, by simp [h1], h2⟩
  | [r, s], hr =>
    simp only [resultA] at hr
    unfold pair2 at hr
    split at hr
    · rename_i x y hx hy
      cases hr
      obtain ⟨u1, h1, h2⟩ := resA_run h hx
      obtain ⟨u2, h3, h4⟩ := resA_run h hy
      refine ⟨.tuple #[u1, u2], by simp [h1, h3], ?_⟩
      unfold AVrep
      exact ⟨[u1, u2], rfl, by unfold AVreps; exact ⟨_, _, rfl, h2, by unfold AVreps; exact ⟨_, _, rfl, h4, by unfold AVreps; rfl⟩⟩⟩
    · cases hr
  | [r, s, t], hr =>
    simp only [resultA] at hr
    unfold pair3 at hr
    split at hr
    · rename_i x y z hx hy hz
      cases hr
      obtain ⟨u1, h1, h2⟩ := resA_run h hx
      obtain ⟨u2, h3, h4⟩ := resA_run h hy
      obtain ⟨u3, h5, h6⟩ := resA_run h hz
      refine ⟨.tuple #[u1, u2, u3], by simp [h1, h3, h5], ?_⟩
      unfold AVrep
      exact ⟨[u1, u2, u3], rfl, by unfold AVreps; exact ⟨_, _, rfl, h2, by unfold AVreps; exact ⟨_, _, rfl, h4, by unfold AVreps; exact ⟨_, _, rfl, h6, by unfold AVreps; rfl⟩⟩⟩⟩
    · cases hr
  | _ :: _ :: _ :: _ :: _, hr => simp [resultA] at hr

mutual
/-- The objects that are handed back, to be written on. -/
def ownIds (st : St) : AV → List Id
  | .row id _ i n => match st.ob id with
    | some (.row _ es) => if i = 0 ∧ n = es.length then [id] else []
    | _ => []
  | .ptr id _ _ => [id]
  | .agg cs => ownIdss st cs
  | .tup cs => ownIdss st cs
  | _ => []
def ownIdss (st : St) : List AV → List Id
  | [] => []
  | v :: vs => ownIds st v ++ ownIdss st vs
end

mutual
/-- What is handed back to be read. -/
def frzVals (st : St) : AV → List AV
  | .row id sz i n => match st.ob id with
    | some (.row _ es) => if i = 0 ∧ n = es.length then [] else [.row id sz i n]
    | _ => [.row id sz i n]
  | .ptr id _ _ => match st.ob id with
    | some (.var cs) => cs
    | _ => []
  | .agg cs => frzValss st cs
  | .tup cs => frzValss st cs
  | _ => []
def frzValss (st : St) : List AV → List AV
  | [] => []
  | v :: vs => frzVals st v ++ frzValss st vs
end

theorem rv_ids : ∀ (v : AV) {r : RV}, st.toRV v = some r → (∀ id ∈ ownIds st v, st.ob id ≠ none) ∧ ∀ x ∈ frzVals st v, (st.toT x).isSome := by
  intro v
  refine AV.rec (motive_1 := fun v => ∀ {r : RV}, st.toRV v = some r → (∀ id ∈ ownIds st v, st.ob id ≠ none) ∧ ∀ x ∈ frzVals st v, (st.toT x).isSome)
    (motive_2 := fun vs => ∀ {rs : List RV}, st.toRVs vs = some rs → (∀ id ∈ ownIdss st vs, st.ob id ≠ none) ∧ ∀ x ∈ frzValss st vs, (st.toT x).isSome) ?_ ?_ ?_ ?_ ?_ ?_ ?_ ?_ ?_ v
  · intro x r _
    simp [ownIds, frzVals]
  · intro id sz i n r hr
    simp only [St.toRV] at hr
    simp only [ownIds, frzVals]
    cases ho : st.ob id with
    | none => rw [ho] at hr; cases hr
    | some o =>
      cases o with
      | var cs => rw [ho] at hr; cases hr
      | row sz' es =>
        dsimp only
        split
        · simp [ho]
        · simp [St.toT, ho]
      | frz sz' es => simp [St.toT, ho]
  · intro id i j r hr
    simp only [St.toRV] at hr
    simp only [ownIds, frzVals]
    split at hr
    · cases ho : st.ob id with
      | none => rw [ho] at hr; cases hr
      | some o =>
        rw [ho] at hr
        cases o with
        | var cs =>
          dsimp only at hr ⊢
          cases hc : st.toTs cs with
          | none => simp [hc] at hr
          | some xs => exact ⟨by simp [ho], (toTs_some hc).2.1⟩
        | row sz' es => cases hr
        | frz sz' es => cases hr
    · cases hr
  · intro cs r _
    simp [ownIds, frzVals]
  · intro cs ih r hr
    simp only [St.toRV] at hr
    cases hc : st.toRVs cs with
    | none => simp [hc] at hr
    | some xs => simpa only [ownIds, frzVals] using ih hc
  · intro cs ih r hr
    simp only [St.toRV] at hr
    cases hc : st.toRVs cs with
    | none => simp [hc] at hr
    | some xs => simpa only [ownIds, frzVals] using ih hc
  · intro r hr
    simp [ownIds, frzVals]
  · intro rs _
    simp [ownIdss, frzValss]
  · intro v vs ih1 ih2 rs hr
    simp only [St.toRVs] at hr
    split at hr
    · rename_i r rs' h1 h2
      obtain ⟨a1, a2⟩ := ih1 h1
      obtain ⟨b1, b2⟩ := ih2 h2
      simp only [ownIdss, frzValss, List.mem_append]
      exact ⟨fun id hid => hid.elim (a1 id) (b1 id), fun x hx => hx.elim (a2 x) (b2 x)⟩
    · cases hr

theorem treps_creps {b : Nat} {arr : Array Value} {ty : TypeId} {cs : List T} (hb : w.heap[b]? = some (.cells arr ty (0, 0))) (h : Treps w S cs arr.toList) : OwnCells w S b cs := by
  obtain ⟨h1, h2⟩ := Treps_iff.1 h
  have hs : arr.size = cs.length := by rw [← h1, Array.length_toList]
  refine ⟨⟨arr, ty, hb, hs⟩, (creps_cells (m := fun _ => 0) (cap := fun _ => 0) (ob := fun _ => none) hb hs).2 ?_⟩
  rw [AVreps_iff]
  refine ⟨by simp [hs], fun j v u hj hu => ?_⟩
  rw [List.getElem?_map] at hj
  cases hc : cs[j]? with
  | none => simp [hc] at hj
  | some x =>
    simp [hc] at hj
    subst hj
    unfold AVrep
    exact h2 j x u hc hu

/-- What comes back, in memory. st1: what is handed back to be read has been frozen. -/
theorem rv_rep (h1 : RelAt w0 S0 own N m cap S1 st1 a w) (hz : Froze st st1) : ∀ (v : AV) {u : Value} {r : RV}, st.toRV v = some r → AVrep w S1 m cap st1.ob v u → (∀ id sz i n, AV.row id sz i n ∈ frzVals st v → S1 (m id)) → (∀ id ∈ ownIds st v, st1.ob id = st.ob id) →
    RVrep w S1 r u ((ownIds st v).map m) ∧ ∀ id ∈ ownIds st v, ¬ S1 (m id) := by
  intro v
  refine AV.rec (motive_1 := fun v => ∀ {u : Value} {r : RV}, st.toRV v = some r → AVrep w S1 m cap st1.ob v u → (∀ id sz i n, AV.row id sz i n ∈ frzVals st v → S1 (m id)) → (∀ id ∈ ownIds st v, st1.ob id = st.ob id) → RVrep w S1 r u ((ownIds st v).map m) ∧ ∀ id ∈ ownIds st v, ¬ S1 (m id))
    (motive_2 := fun vs => ∀ {us : List Value} {rs : List RV}, st.toRVs vs = some rs → AVreps w S1 m cap st1.ob vs us → (∀ id sz i n, AV.row id sz i n ∈ frzValss st vs → S1 (m id)) → (∀ id ∈ ownIdss st vs, st1.ob id = st.ob id) → RVreps w S1 rs us ((ownIdss st vs).map m) ∧ ∀ id ∈ ownIdss st vs, ¬ S1 (m id)) ?_ ?_ ?_ ?_ ?_ ?_ ?_ ?_ ?_ v
  · intro x u r hr hu _ _
    simp only [St.toRV, Option.some.injEq] at hr
    subst hr
    unfold AVrep at hu
    unfold RVrep
    exact ⟨⟨by simp [ownIds], hu⟩, by simp [ownIds]⟩
  · intro id sz i n u r hr hu hv hs
    have win : ∀ x, st.toT (.row id sz i n) = some x → r = .t x → ownIds st (.row id sz i n) = [] → AV.row id sz i n ∈ frzVals st (.row id sz i n) → RVrep w S1 r u ((ownIds st (.row id sz i n)).map m) ∧ ∀ id' ∈ ownIds st (.row id sz i n), ¬ S1 (m id') := by
      intro x hx hrx ho hm
      subst hrx
      rw [ho]
      refine ⟨?_, by simp⟩
      unfold RVrep
      refine ⟨rfl, ?_⟩
      have ht : Treps w S1 [x] [u] := toTs_rep h1 hz (toTs_one hx) (by unfold AVreps; exact ⟨_, _, rfl, hu, by unfold AVreps; rfl⟩) fun id' sz' i' n' hmem => by
        simp at hmem
        obtain ⟨rfl, rfl, rfl, rfl⟩ := hmem
        exact hv _ _ _ _ hm
      unfold Treps at ht
      exact ht.1
    simp only [St.toRV] at hr
    cases ho : st.ob id with
    | none => rw [ho] at hr; cases hr
    | some o =>
      rw [ho] at hr
      cases o with
      | var cs => cases hr
      | row sz' es =>
        dsimp only at hr
        split at hr
        · rename_i hc
          cases hr
          have hoi : ownIds st (.row id sz i n) = [id] := by simp only [ownIds, ho]; rw [if_pos hc]
          rw [hoi] at hs ⊢
          have ho1 : st1.ob id = some (.row sz' es) := by rw [hs id (by simp), ho]
          obtain ⟨k1, k2⟩ := h1.obs id _ ho1
          unfold AVrep at hu
          obtain ⟨A, c, x1, x2, x3, x4, _, x5⟩ := hu
          obtain ⟨_, _, _, _, x9⟩ := x5 sz' es (.inl ho1)
          obtain ⟨rfl, rfl⟩ := x9 hc.1
          refine ⟨?_, by simpa using k2⟩
          unfold RVrep
          exact ⟨m id, cap id, rfl, by rw [x1, hc.2], k1⟩
        · rename_i hc
          cases hr
          exact win _ (by simp [St.toT, ho]) rfl (by simp only [ownIds, ho]; rw [if_neg hc]) (by simp only [frzVals, ho]; rw [if_neg hc]; simp)
      | frz sz' es =>
        dsimp only at hr
        cases hr
        exact win _ (by simp [St.toT, ho]) rfl (by simp only [ownIds, ho]) (by simp only [frzVals, ho]; simp)
  · intro id i j u r hr hu hv hs
    simp only [St.toRV] at hr
    simp only [ownIds, frzVals] at hs hv ⊢
    split at hr
    · rename_i hij
      obtain ⟨rfl, rfl⟩ := hij
      cases ho : st.ob id with
      | none => rw [ho] at hr; cases hr
      | some o =>
        rw [ho] at hr hv
        cases o with
        | var cs =>
          dsimp only at hr hv
          cases hc : st.toTs cs with
          | none => simp [hc] at hr
          | some xs =>
            simp only [hc, Option.map_some, Option.some.injEq] at hr
            subst hr
            have ho1 : st1.ob id = some (.var cs) := by rw [hs id (by simp), ho]
            obtain ⟨⟨arr, ty, k1, k2⟩, k3⟩ := h1.obs id _ ho1
            unfold AVrep at hu
            obtain ⟨ad, x1, x2, _⟩ := hu
            refine ⟨?_, by simpa using k3⟩
            unfold RVrep
            exact ⟨m id, rfl, by rw [x1, x2 _ ho1 rfl], treps_creps k1 (toTs_rep h1 hz hc k2 hv)⟩
        | row sz' es => cases hr
        | frz sz' es => cases hr
    · cases hr
  · intro cs u r hr
    simp [St.toRV] at hr
  · intro cs ih u r hr hu hv hs
    simp only [St.toRV] at hr
    simp only [ownIds, frzVals] at hs hv ⊢
    cases hc : st.toRVs cs with
    | none => simp [hc] at hr
    | some xs =>
      simp only [hc, Option.map_some, Option.some.injEq] at hr
      subst hr
      unfold AVrep at hu
      obtain ⟨us, hu1, hu2⟩ := hu
      obtain ⟨g1, g2⟩ := ih hc hu2 hv hs
      refine ⟨?_, g2⟩
      unfold RVrep
      exact ⟨us, hu1, g1⟩
  · intro cs ih u r hr hu hv hs
    simp only [St.toRV] at hr
    simp only [ownIds, frzVals] at hs hv ⊢
    cases hc : st.toRVs cs with
    | none => simp [hc] at hr
    | some xs =>
      simp only [hc, Option.map_some, Option.some.injEq] at hr
      subst hr
      unfold AVrep at hu
      obtain ⟨us, hu1, hu2⟩ := hu
      obtain ⟨g1, g2⟩ := ih hc hu2 hv hs
      refine ⟨?_, g2⟩
      unfold RVrep
      exact ⟨us, hu1, g1⟩
  · intro u r hr
    simp [St.toRV] at hr
  · intro us rs hr hu _ _
    simp only [St.toRVs, Option.some.injEq] at hr
    subst hr
    unfold AVreps at hu
    unfold RVreps
    exact ⟨⟨hu, by simp [ownIdss]⟩, by simp [ownIdss]⟩
  · intro v vs ih1 ih2 us rs hr hu hv hs
    simp only [St.toRVs] at hr
    split at hr
    · rename_i r rs' e1 e2
      cases hr
      unfold AVreps at hu
      obtain ⟨u, us', rfl, hu1, hu2⟩ := hu
      simp only [ownIdss, frzValss, List.mem_append] at hs hv ⊢
      obtain ⟨a1, a2⟩ := ih1 e1 hu1 (fun id sz i n hm => hv id sz i n (.inl hm)) (fun id hid => hs id (.inl hid))
      obtain ⟨b1, b2⟩ := ih2 e2 hu2 (fun id sz i n hm => hv id sz i n (.inr hm)) (fun id hid => hs id (.inr hid))
      refine ⟨?_, fun id hid => hid.elim (a2 id) (b2 id)⟩
      unfold RVreps
      exact ⟨u, us', _, _, rfl, by rw [List.map_append], a1, b1⟩
    · cases hr

/-! ### arguments -/
def Arg.mut : Arg → Bool
  | .mrow .. => true
  | .mvar _ => true
  | _ => false

/-- The arguments' blocks, the k-th argument's first. -/
def homes (g : Nat → Nat × Nat) : Nat → List Arg → List (Nat × Nat)
  | _, [] => []
  | k, b :: as => if b.mut = true then g k :: homes g (k + 1) as else homes g (k + 1) as

theorem homes_congr {g g' : Nat → Nat × Nat} : ∀ {k k' : Nat} {as : List Arg}, (∀ i, g (k + i) = g' (k' + i)) → homes g k as = homes g' k' as
  | k, k', [], _ => rfl
  | k, k', b :: as, h => by
    unfold homes
    have h0 : g k = g' k' := h 0
    rw [h0, homes_congr (k := k + 1) (k' := k' + 1) (as := as) fun i => by
      have := h (1 + i)
      rw [Nat.add_assoc, Nat.add_assoc]
      exact this]

theorem argsRep_at : ∀ {as : List Arg} {us : List Value} {ab : List (Nat × Nat)}, ArgsRep w S as us ab → ∃ g : Nat → Nat × Nat, us.length = as.length ∧ (∀ k b, as[k]? = some b → ∃ u, us[k]? = some u ∧ ArgRep w S b u (if b.mut = true then [g k] else [])) ∧ homes g 0 as = ab
  | [], us, ab, h => by
    unfold ArgsRep at h
    obtain ⟨rfl, rfl⟩ := h
    exact ⟨fun _ => (0, 0), rfl, fun k b hb => by simp at hb, rfl⟩
  | b :: as, us, ab, h => by
    unfold ArgsRep at h
    obtain ⟨u, us', b1, b2, rfl, rfl, h1, h2⟩ := h
    obtain ⟨g, g1, g2, g3⟩ := argsRep_at h2
    have hb1 : b1 = if b.mut = true then [b1.headD (0, 0)] else [] := by
      cases b with
      | val x => exact h1.1
      | agg xs => exact h1.1
      | mrow sz es => obtain ⟨bb, c, rfl, _⟩ := h1; rfl
      | mvar cs => obtain ⟨bb, rfl, _⟩ := h1; rfl
    refine ⟨fun k => if k = 0 then b1.headD (0, 0) else g (k - 1), by simp [g1], fun k b' hb' => ?_, ?_⟩
    · cases k with
      | zero =>
        simp at hb'
        subst hb'
        refine ⟨u, rfl, ?_⟩
        simp only [if_true]
        rw [← hb1]
        exact h1
      | succ k => simpa using g2 k b' (by simpa using hb')
    · unfold homes
      have e : homes (fun k => if k = 0 then b1.headD (0, 0) else g (k - 1)) 1 as = b2 := by
        rw [← g3]
        exact homes_congr fun i => by simp [Nat.add_comm 1 i]
      rw [Nat.zero_add, e]
      rw [hb1]
      cases b.mut <;> simp

theorem homes_mem {g : Nat → Nat × Nat} : ∀ {k : Nat} {as : List Arg} {i : Nat} {b : Arg}, as[i]? = some b → b.mut = true → g (k + i) ∈ homes g k as
  | k, [], i, b, h, _ => by simp at h
  | k, c :: as, 0, b, h, hm => by
    simp at h
    subst h
    unfold homes
    rw [if_pos hm]
    simp
  | k, c :: as, i + 1, b, h, hm => by
    have := homes_mem (g := g) (k := k + 1) (i := i) (b := b) (as := as) (by simpa using h) hm
    rw [show k + (i + 1) = k + 1 + i by omega]
    unfold homes
    split
    · simp [this]
    · exact this

theorem homes_inj {g : Nat → Nat × Nat} : ∀ {k : Nat} {as : List Arg} {i j : Nat} {b c : Arg}, ((homes g k as).map (·.1)).Nodup → as[i]? = some b → b.mut = true → as[j]? = some c → c.mut = true → (g (k + i)).1 = (g (k + j)).1 → i = j
  | k, [], i, j, b, c, _, h, _, _, _, _ => by simp at h
  | k, x :: as, i, j, b, c, hn, hi, hb, hj, hc, he => by
    unfold homes at hn
    have tail : ((homes g (k + 1) as).map (·.1)).Nodup := by
      split at hn
      · rw [List.map_cons, List.nodup_cons] at hn; exact hn.2
      · exact hn
    have clash : ∀ {l : Nat} {c : Arg}, x.mut = true → as[l]? = some c → c.mut = true → (g k).1 = (g (k + 1 + l)).1 → False := by
      intro l c hx hl hc he
      rw [if_pos hx, List.map_cons, List.nodup_cons] at hn
      exact hn.1 (he ▸ List.mem_map.2 ⟨_, homes_mem hl hc, rfl⟩)
    cases i with
    | zero =>
      cases j with
      | zero => rfl
      | succ j =>
        simp at hi
        subst hi
        exact (clash (l := j) hb (by simpa using hj) hc (by rw [show k + 1 + j = k + (j + 1) by omega]; exact he)).elim
    | succ i =>
      cases j with
      | zero =>
        simp at hj
        subst hj
        exact (clash (l := i) hc (by simpa using hi) hb (by rw [show k + 1 + i = k + (i + 1) by omega]; exact he.symm)).elim
      | succ j =>
        have := homes_inj (k := k + 1) (i := i) (j := j) tail (by simpa using hi) hb (by simpa using hj) hc (by rw [show k + 1 + i = k + (i + 1) by omega, show k + 1 + j = k + (j + 1) by omega]; exact he)
        omega

/-- When a function is entered. -/
theorem enter_rel {as : List Arg} {us : List Value} {ab : List (Nat × Nat)} (hS : ∀ b, S b → b < w.heap.size) (h : ArgsRep w S as us ab) (hn : (ab.map (·.1)).Nodup) (hlt : ∀ b ∈ ab.map (·.1), b < w.heap.size) (hN : as.length ≤ N) :
    ∃ g, homes g 0 as = ab ∧ Rel w S (ab.map (·.1)) g N (St.enter as) { tmps := us.toArray ++ Array.replicate (N - us.toArray.size) undef, defers := [] } w := by
  obtain ⟨g, g1, g2, g3⟩ := argsRep_at h
  refine ⟨g, g3, fun id => if base ≤ id.1 ∧ id.2 = 0 then (g (id.1 - base)).1 else 0, fun id => if base ≤ id.1 ∧ id.2 = 0 then (g (id.1 - base)).2 else 0, S, ?_, fun k => by simp⟩
  have hob : ∀ id o, (St.enter as).ob id = some o → ∃ k b, id = (base + k, 0) ∧ as[k]? = some b ∧ ((∃ sz es, b = .mrow sz es ∧ o = .row sz es) ∨ ∃ cs, b = .mvar cs ∧ o = .var (cs.map .t)) := by
    intro id o ho
    simp only [St.enter] at ho
    split at ho
    · rename_i hid
      have hide : id = (base + (id.1 - base), 0) := Prod.ext_iff.2 ⟨(Nat.add_sub_cancel' hid.1).symm, hid.2⟩
      cases hb : as[id.1 - base]? with
      | none => rw [hb] at ho; cases ho
      | some b =>
        rw [hb] at ho
        refine ⟨id.1 - base, b, hide, hb, ?_⟩
        cases b with
        | mrow sz es => cases ho; exact .inl ⟨_, _, rfl, rfl⟩
        | mvar cs => cases ho; exact .inr ⟨_, rfl, rfl⟩
        | val _ => cases ho
        | agg _ => cases ho
    · cases ho
  have hsz : us.toArray.size = us.length := by simp
  refine ⟨by simp; omega, rfl, ⟨rfl, rfl, rfl, Nat.le_refl _, fun _ _ _ => rfl⟩, hS, fun _ hb => hb, fun _ hb => .inl hb, fun id o ho => ?_, fun id o ho => ?_, fun id id' h1 h2 he => ?_, fun t ht => ?_, fun t ht => ?_⟩
  · obtain ⟨k, b, rfl, hb, hc⟩ := hob id o ho
    obtain ⟨u, hu, hr⟩ := g2 k b hb
    rcases hc with ⟨sz, es, rfl, rfl⟩ | ⟨cs, rfl, rfl⟩
    · obtain ⟨bb, c, e1, e2, e3, e4⟩ := hr
      simp [Arg.mut] at e1
      unfold ObRep
      simp only [Nat.le_add_right, true_and, if_true, Nat.add_sub_cancel_left, e1]
      exact ⟨e3, e4⟩
    · obtain ⟨bb, e1, e2, ⟨⟨arr, ty, e3, e4⟩, e5⟩, e6⟩ := hr
      simp [Arg.mut] at e1
      unfold ObRep
      simp only [Nat.le_add_right, true_and, if_true, Nat.add_sub_cancel_left, e1]
      exact ⟨⟨arr, ty, e3, (creps_cells e3 e4).1 e5⟩, e6⟩
  · obtain ⟨k, b, rfl, hb, hc⟩ := hob id o ho
    right
    simp only [Nat.le_add_right, true_and, if_true, Nat.add_sub_cancel_left]
    rw [← g3]
    refine List.mem_map.2 ⟨g k, ?_, rfl⟩
    have := homes_mem (g := g) (k := 0) hb (by rcases hc with ⟨_, _, rfl, _⟩ | ⟨_, rfl, _⟩ <;> rfl)
    simpa using this
  · obtain ⟨o1, h1⟩ := Option.ne_none_iff_exists'.1 h1
    obtain ⟨o2, h2⟩ := Option.ne_none_iff_exists'.1 h2
    obtain ⟨k1, b1, rfl, hb1, hc1⟩ := hob id o1 h1
    obtain ⟨k2, b2, rfl, hb2, hc2⟩ := hob id' o2 h2
    simp only [Nat.le_add_right, true_and, if_true, Nat.add_sub_cancel_left] at he
    have := homes_inj (g := g) (k := 0) (by rw [g3]; exact hn) hb1 (by rcases hc1 with ⟨_, _, rfl, _⟩ | ⟨_, rfl, _⟩ <;> rfl) hb2 (by rcases hc2 with ⟨_, _, rfl, _⟩ | ⟨_, rfl, _⟩ <;> rfl) (by simpa using he)
    rw [this]
  · simp only [St.enter]
    cases hb : as[t]? with
    | none => unfold AVrep; trivial
    | some b =>
      obtain ⟨u, hu, hr⟩ := g2 t b hb
      have htu := (List.getElem?_eq_some_iff.1 hu).1
      have hget : (us.toArray ++ Array.replicate (N - us.toArray.size) undef).getD t undef = u := by
        rw [Array.getD_eq_getD_getElem?, Array.getElem?_append_left (by simpa using htu)]
        simp [hu]
      rw [hget]
      cases b with
      | val x => unfold AVrep; exact hr.2
      | agg xs =>
        obtain ⟨_, us', e1, e2⟩ := hr
        unfold AVrep
        refine ⟨us', e1, ?_⟩
        rw [AVreps_iff]
        obtain ⟨f1, f2⟩ := Treps_iff.1 e2
        refine ⟨by simp [f1], fun j v u hj hu => ?_⟩
        rw [List.getElem?_map] at hj
        cases hc : xs[j]? with
        | none => simp [hc] at hj
        | some x =>
          simp [hc] at hj
          subst hj
          unfold AVrep
          exact f2 j x u hc hu
      | mrow sz es =>
        obtain ⟨bb, c, e1, e2, e3, e4⟩ := hr
        simp [Arg.mut] at e1
        have hob1 : (St.enter as).ob (base + t, 0) = some (.row sz es) := by simp [St.enter, hb]
        have := AVrep_row (w := w) (S := S) (m := fun id : Id => if base ≤ id.1 ∧ id.2 = 0 then (g (id.1 - base)).1 else 0) (cap := fun id : Id => if base ≤ id.1 ∧ id.2 = 0 then (g (id.1 - base)).2 else 0) (ob := (St.enter as).ob) (id := (base + t, 0)) (sz := sz) (es := es) hob1 (by simp [e1]; exact e3.2.1) (by simp [e1]; exact e3.2.2.1)
        simp [e1] at this
        rw [e2]
        simpa [St.enter] using this
      | mvar cs =>
        obtain ⟨bb, e1, e2, e3, e4⟩ := hr
        simp [Arg.mut] at e1
        unfold AVrep
        refine ⟨_, e2, fun cs' hcs _ => by simp [e1], fun sz es hes => ?_⟩
        simp [hb] at hes
  · simp only [St.enter]
    rw [List.getElem?_eq_none (by omega)]

/-! ### what the arguments' objects are when the function returns -/
def backOne (st : St) (k : Nat) : Option Arg → Prop
  | none => True
  | some (.mrow sz es) => st.ob (base + k, 0) = some (.row sz es)
  | some (.mvar cs) => ∃ avs, st.ob (base + k, 0) = some (.var avs) ∧ st.toTs avs = some cs
  | some _ => False

def backs (st : St) : Nat → List Arg → List (Option Arg) → Prop
  | _, [], [] => True
  | k, .val _ :: as, os => backs st (k + 1) as os
  | k, .agg _ :: as, os => backs st (k + 1) as os
  | k, .mrow _ _ :: as, o :: os => backOne st k o ∧ backs st (k + 1) as os
  | k, .mvar _ :: as, o :: os => backOne st k o ∧ backs st (k + 1) as os
  | _, _, _ => False

def outIds : Nat → List Arg → List (Option Arg) → List Id
  | k, .val _ :: as, os => outIds (k + 1) as os
  | k, .agg _ :: as, os => outIds (k + 1) as os
  | k, .mrow _ _ :: as, some _ :: os => (base + k, 0) :: outIds (k + 1) as os
  | k, .mvar _ :: as, some _ :: os => (base + k, 0) :: outIds (k + 1) as os
  | k, .mrow _ _ :: as, none :: os => outIds (k + 1) as os
  | k, .mvar _ :: as, none :: os => outIds (k + 1) as os
  | _, _, _ => []

def outOne (st : St) (k : Nat) : Option Arg → List AV
  | some (.mvar _) => match st.ob (base + k, 0) with
    | some (.var avs) => avs
    | _ => []
  | _ => []

def outVals (st : St) : Nat → List Arg → List (Option Arg) → List AV
  | k, .val _ :: as, os => outVals st (k + 1) as os
  | k, .agg _ :: as, os => outVals st (k + 1) as os
  | k, .mrow _ _ :: as, o :: os => outOne st k o ++ outVals st (k + 1) as os
  | k, .mvar _ :: as, o :: os => outOne st k o ++ outVals st (k + 1) as os
  | _, _, _ => []

theorem backOne_ids {k : Nat} {x : Option Arg} (h : backOne st k x) : (x ≠ none → st.ob (base + k, 0) ≠ none) ∧ ∀ y ∈ outOne st k x, (st.toT y).isSome := by
  cases x with
  | none => simp [outOne]
  | some b =>
    cases b with
    | mrow sz es =>
      unfold backOne at h
      simp [outOne, h]
    | mvar cs =>
      obtain ⟨avs, h1, h2⟩ := h
      simp only [outOne, h1]
      exact ⟨by simp, (toTs_some h2).2.1⟩
    | val _ => exact h.elim
    | agg _ => exact h.elim

theorem back_ids : ∀ {k : Nat} {as : List Arg} {outs : List (Option Arg)}, backs st k as outs → (∀ id ∈ outIds k as outs, st.ob id ≠ none) ∧ ∀ x ∈ outVals st k as outs, (st.toT x).isSome
  | k, [], [], _ => by simp [outIds, outVals]
  | k, [], _ :: _, h => by simp [backs] at h
  | k, .val _ :: as, os, h => by
    simp only [backs] at h
    simpa only [outIds, outVals] using back_ids h
  | k, .agg _ :: as, os, h => by
    simp only [backs] at h
    simpa only [outIds, outVals] using back_ids h
  | k, .mrow _ _ :: as, [], h => by simp [backs] at h
  | k, .mvar _ :: as, [], h => by simp [backs] at h
  | k, .mrow _ _ :: as, x :: os, h => by
    simp only [backs] at h
    obtain ⟨a1, a2⟩ := backOne_ids h.1
    obtain ⟨b1, b2⟩ := back_ids h.2
    simp only [outVals, List.mem_append]
    refine ⟨fun id hid => ?_, fun y hy => hy.elim (a2 y) (b2 y)⟩
    cases x with
    | none => exact b1 id (by simpa only [outIds] using hid)
    | some b =>
      simp only [outIds, List.mem_cons] at hid
      rcases hid with rfl | hid
      · exact a1 (by simp)
      · exact b1 id hid
  | k, .mvar _ :: as, x :: os, h => by
    simp only [backs] at h
    obtain ⟨a1, a2⟩ := backOne_ids h.1
    obtain ⟨b1, b2⟩ := back_ids h.2
    simp only [outVals, List.mem_append]
    refine ⟨fun id hid => ?_, fun y hy => hy.elim (a2 y) (b2 y)⟩
    cases x with
    | none => exact b1 id (by simpa only [outIds] using hid)
    | some b =>
      simp only [outIds, List.mem_cons] at hid
      rcases hid with rfl | hid
      · exact a1 (by simp)
      · exact b1 id hid

theorem backOne_rep (h1 : RelAt w0 S0 own N m cap S1 st1 a w) (hz : Froze st st1) {g : Nat × Nat} {k : Nat} (hg : m (base + k, 0) = g.1 ∧ cap (base + k, 0) = g.2) {x : Option Arg} (h : backOne st k x) (hs : x ≠ none → st1.ob (base + k, 0) = st.ob (base + k, 0))
    (hv : ∀ id sz i n, AV.row id sz i n ∈ outOne st k x → S1 (m id)) : OutRep w S1 g x := by
  cases x with
  | none => trivial
  | some b =>
    cases b with
    | mrow sz es =>
      unfold backOne at h
      have ho1 : st1.ob (base + k, 0) = some (.row sz es) := by rw [hs (by simp), h]
      obtain ⟨k1, k2⟩ := h1.obs _ _ ho1
      rw [hg.1] at k1 k2
      rw [hg.2] at k1
      exact ⟨k1, k2⟩
    | mvar cs =>
      obtain ⟨avs, h2, h3⟩ := h
      have ho1 : st1.ob (base + k, 0) = some (.var avs) := by rw [hs (by simp), h2]
      obtain ⟨⟨arr, ty, k1, k2⟩, k3⟩ := h1.obs _ _ ho1
      rw [hg.1] at k1 k3
      simp only [outOne, h2] at hv
      exact ⟨treps_creps k1 (toTs_rep h1 hz h3 k2 hv), k3⟩
    | val _ => exact h.elim
    | agg _ => exact h.elim

theorem back_rep (h1 : RelAt w0 S0 own N m cap S1 st1 a w) (hz : Froze st st1) {g : Nat → Nat × Nat} (hg : ∀ k, m (base + k, 0) = (g k).1 ∧ cap (base + k, 0) = (g k).2) : ∀ {k : Nat} {as : List Arg} {outs : List (Option Arg)}, backs st k as outs → (∀ id ∈ outIds k as outs, st1.ob id = st.ob id) →
    (∀ id sz i n, AV.row id sz i n ∈ outVals st k as outs → S1 (m id)) → OutReps w S1 (homes g k as) outs ∧ liveOuts (homes g k as) outs = (outIds k as outs).map m
  | k, [], [], _, _, _ => by simp [homes, OutReps, liveOuts, outIds]
  | k, [], _ :: _, h, _, _ => by simp [backs] at h
  | k, .val _ :: as, os, h, hs, hv => by
    simp only [backs] at h
    simp only [outIds, outVals] at hs hv ⊢
    have := back_rep h1 hz hg h hs hv
    unfold homes
    simpa [Arg.mut] using this
  | k, .agg _ :: as, os, h, hs, hv => by
    simp only [backs] at h
    simp only [outIds, outVals] at hs hv ⊢
    have := back_rep h1 hz hg h hs hv
    unfold homes
    simpa [Arg.mut] using this
  | k, .mrow _ _ :: as, [], h, _, _ => by simp [backs] at h
  | k, .mvar _ :: as, [], h, _, _ => by simp [backs] at h
  | k, .mrow sz es :: as, x :: os, h, hs, hv => by
    simp only [backs] at h
    simp only [outVals, List.mem_append] at hv
    have hh : homes g k (.mrow sz es :: as) = g k :: homes g (k + 1) as := by rw [homes]; simp [Arg.mut]
    rw [hh]
    have r1 := backOne_rep h1 hz (hg k) h.1 (fun hne => hs _ (by cases x with | none => exact absurd rfl hne | some b => simp [outIds])) (fun id sz i n hm => hv id sz i n (.inl hm))
    obtain ⟨r2, r3⟩ := back_rep h1 hz hg h.2 (fun id hid => hs id (by cases x with | none => simpa only [outIds] using hid | some b => simp [outIds, hid])) (fun id sz i n hm => hv id sz i n (.inr hm))
    unfold OutReps
    refine ⟨⟨r1, r2⟩, ?_⟩
    cases x with
    | none => simpa only [liveOuts, outIds] using r3
    | some b => simp only [liveOuts, outIds, List.map_cons, r3, (hg k).1]
  | k, .mvar cs :: as, x :: os, h, hs, hv => by
    simp only [backs] at h
    simp only [outVals, List.mem_append] at hv
    have hh : homes g k (.mvar cs :: as) = g k :: homes g (k + 1) as := by rw [homes]; simp [Arg.mut]
    rw [hh]
    have r1 := backOne_rep h1 hz (hg k) h.1 (fun hne => hs _ (by cases x with | none => exact absurd rfl hne | some b => simp [outIds])) (fun id sz i n hm => hv id sz i n (.inl hm))
    obtain ⟨r2, r3⟩ := back_rep h1 hz hg h.2 (fun id hid => hs id (by cases x with | none => simpa only [outIds] using hid | some b => simp [outIds, hid])) (fun id sz i n hm => hv id sz i n (.inr hm))
    unfold OutReps
    refine ⟨⟨r1, r2⟩, ?_⟩
    cases x with
    | none => simpa only [liveOuts, outIds] using r3
    | some b => simp only [liveOuts, outIds, List.map_cons, r3, (hg k).1]

/-- A function's end: its result, its arguments' objects. -/
def Back (P : Program) (rs : List ResultVar) (as : List Arg) (res : RV) (outs : List (Option Arg)) (st : St) : Prop :=
  ∃ v, resultA P st rs = some v ∧ st.toRV v = some res ∧ backs st 0 as outs ∧ (ownIds st v ++ outIds 0 as outs).Nodup ∧ ∀ id ∈ ownIds st v ++ outIds 0 as outs, noRow id (frzVals st v ++ outVals st 0 as outs) = true

/-- Code comes to its end. -/
def Fin (K : St → Prop) : Ex → St → Prop
  | .exit _, _ => False
  | _, s => K s
@[simp] theorem Fin_normal (K : St → Prop) (s : St) : Fin K .normal s = K s := rfl
@[simp] theorem Fin_ret (K : St → Prop) (s : St) : Fin K .ret s = K s := rfl
@[simp] theorem Fin_exit (K : St → Prop) (s : St) (i : Nat) : Fin K (.exit i) s = False := rfl

theorem back_post {fn : Func} {as : List Arg} {res : RV} {outs : List (Option Arg)} {g : Nat → Nat × Nat} (hr : Rel w0 S0 ((homes g 0 as).map (·.1)) g N st a w) (hb : Back P fn.results.toList as res outs st) : bodyPost P fn (Post w0 S0 (homes g 0 as) res outs) .ret a w := by
  obtain ⟨v, b1, b2, b3, b4, b5⟩ := hb
  obtain ⟨m, cap, S, hr, hg⟩ := hr
  obtain ⟨u, u1, u2⟩ := result_run hr b1
  obtain ⟨i1, i2⟩ := rv_ids v b2
  obtain ⟨j1, j2⟩ := back_ids b3
  obtain ⟨S1, r1, q1, z1, v1⟩ := freeze_all hr (frzVals st v ++ outVals st 0 as outs) (Froze.refl st) (fun x hx => by
    rcases List.mem_append.1 hx with hx | hx
    · exact i2 x hx
    · exact j2 x hx)
  have hsame : ∀ id ∈ ownIds st v ++ outIds 0 as outs, (st.eff (st.frzEffs (frzVals st v ++ outVals st 0 as outs))).ob id = st.ob id := fun id hid => frz_other (b5 id hid) st
  have u2' : AVrep w S1 m cap (st.eff (st.frzEffs (frzVals st v ++ outVals st 0 as outs))).ob v u := by
    refine AVrep.keep (p := fun _ => False) (Same.refl _ _) q1 ⟨fun i _ => ?_, fun i _ => ⟨rfl, rfl⟩⟩ _ _ (AV.free_false _) u2
    rcases z1.2 i with e1 | ⟨sz', es', e1, e2⟩
    · rw [e1]; exact Ob.leads_refl _
    · rw [e2]; rcases e1 with e1 | e1 <;> rw [e1] <;> exact ⟨rfl, rfl⟩
  obtain ⟨c1, c2⟩ := rv_rep r1 z1 v b2 u2' (fun id sz i n hm => v1 id sz i n (List.mem_append_left _ hm)) (fun id hid => hsame id (List.mem_append_left _ hid))
  obtain ⟨d1, d2⟩ := back_rep r1 z1 hg b3 (fun id hid => hsame id (List.mem_append_right _ hid)) (fun id sz i n hm => v1 id sz i n (List.mem_append_right _ hm))
  have hlive : ∀ id ∈ ownIds st v ++ outIds 0 as outs, st.ob id ≠ none := fun id hid => by
    rcases List.mem_append.1 hid with hid | hid
    · exact i1 id hid
    · exact j1 id hid
  refine ⟨hr.defers, u, u1, u, S1, (ownIds st v).map m, rfl, r1.after, r1.base, fun b hb => ⟨r1.stab b hb, r1.fresh b hb⟩, c1, ?_, fun b hb => ?_, d1⟩
  · rw [d2, ← List.map_append]
    unfold List.Nodup
    rw [List.pairwise_map]
    exact List.Pairwise.imp_of_mem (fun {x y} hx hy hne he => hne (hr.inj x y (hlive x hx) (hlive y hy) he)) b4
  · obtain ⟨id, hid, rfl⟩ := List.mem_map.1 hb
    obtain ⟨o', ho'⟩ := Option.ne_none_iff_exists'.1 (i1 id hid)
    exact ⟨c2 id hid, (hr.obs id o' ho').lt, hr.mine id o' ho'⟩

/-- A contract, by the calculus. -/
theorem callsF_of_wp {f : FuncId} {fn : Func} {c : Code} (lo : Nat → List Nat) (hm : P.follows .mixedOrders = true) (hf : P.funcs[f]? = some fn) (hb : fn.body = some c) (hname : (fn.name == "runtime.NumGoroutine") = false) (hok : (decide (fn.ntmps ≤ base) && okCode fn.ntmps lo c) = true)
    {as : List Arg} {res : RV} {outs : List (Option Arg)} (hlen : as.length ≤ fn.ntmps) (hlike : Arg.like as outs) (hwp : wpC P lo c (Fin (Back P fn.results.toList as res outs)) (St.enter as)) : CallsF P f as res outs := by
  simp only [Bool.and_eq_true, decide_eq_true_eq] at hok
  refine ⟨⟨fn, hf, hname, by rw [hb]; rfl⟩, hlike, fun w S us usF ab hS hfl harg hn hlt => ?_⟩
  obtain rfl := flatU_nones _ _ _ hfl
  obtain ⟨g, rfl, hr⟩ := enter_rel hS harg hn hlt hlen
  refine calls_of_wp hf hb (wp_mono (code_sound hm hok.1 lo c hok.2 hr hwp) fun e a' w' he => ?_)
  cases e with
  | normal =>
    obtain ⟨st, h1, h2⟩ := he
    exact back_post h1 h2
  | ret =>
    obtain ⟨st, h1, h2⟩ := he
    exact back_post h1 h2
  | exit i =>
    obtain ⟨st, h1, h2⟩ := he
    exact h2.elim
  | goto l => exact he.elim
  | panic c => exact he.elim
  | outgrown => exact he.elim

end Cal

/- A calculus of our own, thirty-first part: code laid out for reckoning: guards resolved, positions left out; its rules. No program is named here. -/
set_option linter.unusedSimpArgs false
set_option linter.unusedVariables false
namespace Cal
open Go Go.RowKit

structure Op1 where
  dst : Option Nat
  op : Op
  g : Option (Nat × Bool)

inductive Code1 where
  | skip
  | region (mk : List Nat) (dr : Bool) (lo : List Nat) (ops : List Op1)
  | seq (a b : Code1)
  | cond (c : Operand) (x y : Code1)
  | block (id : Nat) (c : Code1)
  | loop (c : Code1)
  | exit (id : Nat)
  | ret

def comp1 (ops : Array Oper) (o : Oper) : Option Op1 :=
  match o.guard with
  | none => some ⟨o.dst, o.op, none⟩
  | some (j, want) => match (ops[j]?).bind (·.dst) with
    | some t => some ⟨o.dst, o.op, some (t, want)⟩
    | none => none

def comps (ops : Array Oper) : List Oper → Option (List Op1)
  | [] => some []
  | o :: l => match comp1 ops o, comps ops l with
    | some x, some xs => some (x :: xs)
    | _, _ => none

def two {α β γ : Type} (f : α → β → γ) (x : Option α) (y : Option β) : Option γ := match x, y with
  | some a, some b => some (f a b)
  | _, _ => none

def comp (lo : Nat → List Nat) : Code → Option Code1
  | .skip => some .skip
  | .region id ops dr => (comps ops ops.toList).map (.region (makes ops.toList) dr (lo id))
  | .seq a b => two .seq (comp lo a) (comp lo b)
  | .cond c x y => two (.cond c) (comp lo x) (comp lo y)
  | .block id c => (comp lo c).map (.block id)
  | .loop c => (comp lo c).map .loop
  | .exit id => some (.exit id)
  | .ret => some .ret
  | _ => none

def muteB (dr : Bool) (lo : List Nat) (d : Option Nat) : Bool := dr && !(lo.contains (d.getD 0))

def step1 (P : Program) (dr : Bool) (lo : List Nat) (d : Option Nat) (op : Op) (st : St) (K : St → Prop) : Prop :=
  match op with
  | .call { callee := .value (.func f), args := args, .. } => CallK P f (muteB dr lo d) st (args.toList.map st.ev) d K
  | op => andT (muted (noisy op && muteB dr lo d) (d.getD 0) (evOp P (d.getD 0) st op)) fun r => K (st.eff' d r.1 r.2)

def wantA (want : Bool) : AV → Option Bool
  | .t (.v (.bool b)) => some (b == want)
  | .tup [] => some false
  | _ => none

def guard1 (P : Program) (dr : Bool) (lo : List Nat) (d : Option Nat) (op : Op) (want : Bool) (v : AV) (st : St) (K : St → Prop) : Prop :=
  andT (wantA want v) fun b => onB b (step1 P dr lo d op st K) (K (st.put d (.tup [])))

def stepG (P : Program) (dr : Bool) (lo : List Nat) (o : Op1) (st : St) (K : St → Prop) : Prop :=
  match o.g with
  | none => step1 P dr lo o.dst o.op st K
  | some (t, want) => guard1 P dr lo o.dst o.op want (st.tm t) st K

def wpM (P : Program) (dr : Bool) (lo : List Nat) : List Op1 → St → (St → Prop) → Prop
  | [], st, K => K st
  | o :: l, st, K => stepG P dr lo o st fun st' => wpM P dr lo l st' K

def wp1 (P : Program) : Code1 → (Ex → St → Prop) → St → Prop
  | .skip, Q, st => Q .normal st
  | .region mk dr lo ops, Q, st => wpM P dr lo ops (st.kill mk) (Q .normal)
  | .seq a b, Q, st => wp1 P a (thenQ (wp1 P b Q) Q) st
  | .cond c x y, Q, st => andT (boolA (st.ev c)) fun b => onB b (wp1 P x Q st) (wp1 P y Q st)
  | .block id c, Q, st => wp1 P c (inBlk id Q) st
  | .loop c, Q, st => ∃ (I : St → Prop) (μ : St → Nat), I st ∧ ∀ st, I st → wp1 P c (thenQ (fun st' => I st' ∧ μ st' < μ st) Q) st
  | .exit id, Q, st => Q (.exit id) st
  | .ret, Q, st => Q .ret st

theorem CallK_mono {P : Program} {f : FuncId} {mute : Bool} {st : St} {vs : List AV} {d : Option Nat} {K K' : St → Prop} (h : CallK P f mute st vs d K) (hk : ∀ s, K s → K' s) : CallK P f mute st vs d K' := by
  obtain ⟨sh, vsF, as, res, outs, keep, h0, h1, h2, h3, h4, h5, h6⟩ := h
  exact ⟨sh, vsF, as, res, outs, keep, h0, h1, h2, h3, h4, h5, hk _ h6⟩
theorem step1_mono {P : Program} {dr : Bool} {lo : List Nat} {d : Option Nat} {op : Op} {st : St} {K K' : St → Prop} (h : step1 P dr lo d op st K) (hk : ∀ s, K s → K' s) : step1 P dr lo d op st K' := by
  unfold step1 at *
  split at h
  · exact CallK_mono h hk
  · exact andT_mono h fun r hr => hk _ hr
theorem stepG_mono {P : Program} {dr : Bool} {lo : List Nat} {o : Op1} {st : St} {K K' : St → Prop} (h : stepG P dr lo o st K) (hk : ∀ s, K s → K' s) : stepG P dr lo o st K' := by
  unfold stepG at *
  split at h
  · exact step1_mono h hk
  · exact andT_mono h fun b hb => onB_mono hb (fun h1 => step1_mono h1 hk) (hk _)
theorem wpM_mono {P : Program} {dr : Bool} {lo : List Nat} : ∀ {l : List Op1} {st : St} {K K' : St → Prop}, wpM P dr lo l st K → (∀ s, K s → K' s) → wpM P dr lo l st K'
  | [], _, _, _, h, hk => hk _ h
  | _ :: _, _, _, _, h, hk => by
    unfold wpM at *
    exact stepG_mono h fun s hs => wpM_mono hs hk
theorem thenQ_mono {K K' : St → Prop} {Q Q' : Ex → St → Prop} (h1 : ∀ s, K s → K' s) (h2 : ∀ e s, Q e s → Q' e s) : ∀ e s, thenQ K Q e s → thenQ K' Q' e s := fun e s h => by
  cases e
  · exact h1 s h
  · exact h2 _ s h
  · exact h2 _ s h
theorem inBlk_mono {id : Nat} {Q Q' : Ex → St → Prop} (h2 : ∀ e s, Q e s → Q' e s) : ∀ e s, inBlk id Q e s → inBlk id Q' e s := fun e s h => by
  cases e with
  | normal => exact h2 _ s h
  | ret => exact h2 _ s h
  | exit i =>
    simp only [inBlk] at *
    split
    · rename_i hi; rw [if_pos hi] at h; exact h2 _ _ h
    · rename_i hi; rw [if_neg hi] at h; exact h2 _ _ h
theorem wp1_mono {P : Program} : ∀ (c : Code1) {Q Q' : Ex → St → Prop} {st : St}, wp1 P c Q st → (∀ e s, Q e s → Q' e s) → wp1 P c Q' st
  | .skip, _, _, _, h, hq => hq _ _ h
  | .region mk dr lo ops, _, _, _, h, hq => wpM_mono h fun s hs => hq _ _ hs
  | .seq a b, _, _, _, h, hq => wp1_mono a h (thenQ_mono (fun s hs => wp1_mono b hs hq) hq)
  | .cond c x y, _, _, _, h, hq => andT_mono h fun b hb => onB_mono hb (fun h1 => wp1_mono x h1 hq) (fun h1 => wp1_mono y h1 hq)
  | .block id c, _, _, _, h, hq => wp1_mono c h (inBlk_mono hq)
  | .loop c, _, _, _, h, hq => by
    obtain ⟨I, μ, h0, h1⟩ := h
    exact ⟨I, μ, h0, fun s hs => wp1_mono c (h1 s hs) (thenQ_mono (fun _ h => h) hq)⟩
  | .exit _, _, _, _, h, hq => hq _ _ h
  | .ret, _, _, _, h, hq => hq _ _ h

theorem step1_op {P : Program} {ops : Array Oper} {dr : Bool} {lo : List Nat} {o : Oper} {st : St} {K : St → Prop} (h : step1 P dr lo o.dst o.op st K) : wpOp P ⟨ops, dr, lo⟩ o st K := by
  unfold step1 at h
  unfold wpOp
  exact h
theorem wpM_wpL {P : Program} {ops : Array Oper} {dr : Bool} {lo : List Nat} : ∀ {os : List Oper} {os1 : List Op1} {st : St} {K : St → Prop}, comps ops os = some os1 → wpM P dr lo os1 st K → wpL P ⟨ops, dr, lo⟩ os st K
  | [], os1, st, K, hc, h => by
    unfold comps at hc
    cases hc
    rw [wpL]
    exact h
  | o :: os, os1, st, K, hc, h => by
    unfold comps at hc
    split at hc
    · rename_i x xs hx hxs
      cases hc
      unfold wpM at h
      rw [wpL]
      unfold comp1 at hx
      unfold stepG at h
      split at hx
      · rename_i hg
        cases hx
        rw [hg]
        exact ⟨true, rfl, wpOp_mono (step1_op h) fun s hs => wpM_wpL hxs hs⟩
      · rename_i j want hg
        split at hx
        · rename_i t ht
          cases hx
          rw [hg]
          obtain ⟨b, hb, h⟩ := h
          refine ⟨b, ?_, ?_⟩
          · simp only [guardA, ht, Option.map_some]
            unfold wantA at hb
            split at hb
            · rename_i b' hb'
              rw [hb']
              exact hb
            · rename_i hb'
              rw [hb']
              exact hb
            · cases hb
          · exact onB_mono h (fun h1 => wpOp_mono (step1_op h1) fun s hs => wpM_wpL hxs hs) (fun h1 => wpM_wpL hxs h1)
        · cases hx
    · cases hc

theorem two_inv {α β γ : Type} {f : α → β → γ} {x : Option α} {y : Option β} {z : γ} (h : two f x y = some z) : ∃ a b, x = some a ∧ y = some b ∧ z = f a b := by
  unfold two at h
  split at h
  · cases h
    exact ⟨_, _, rfl, rfl, rfl⟩
  · cases h

theorem wp1_wpC {P : Program} {lo : Nat → List Nat} : ∀ (c : Code) {k : Code1} {Q : Ex → St → Prop} {st : St}, comp lo c = some k → wp1 P k Q st → wpC P lo c Q st
  | .skip, k, Q, st, hc, h => by unfold comp at hc; cases hc; rw [wpC_skip]; exact h
  | .region id ops dr, k, Q, st, hc, h => by
    unfold comp at hc
    cases ho : comps ops ops.toList with
    | none => simp [ho] at hc
    | some os1 =>
      simp only [ho, Option.map_some, Option.some.injEq] at hc
      subst hc
      rw [wpC_region]
      exact wpM_wpL ho h
  | .seq a b, k, Q, st, hc, h => by
    unfold comp at hc
    obtain ⟨x, y, hx, hy, rfl⟩ := two_inv hc
    refine wpC_seq fun K hK => wpC_mono a (wp1_wpC a hx h) (thenQ_mono (fun s hs => hK s (wp1_wpC b hy hs)) fun _ _ h => h)
  | .cond c x y, k, Q, st, hc, h => by
    unfold comp at hc
    obtain ⟨k1, k2, hx, hy, rfl⟩ := two_inv hc
    rw [wpC]
    exact andT_mono h fun b hb => onB_mono hb (fun h1 => wp1_wpC x hx h1) (fun h1 => wp1_wpC y hy h1)
  | .block id c, k, Q, st, hc, h => by
    unfold comp at hc
    cases ho : comp lo c with
    | none => simp [ho] at hc
    | some k1 =>
      simp only [ho, Option.map_some, Option.some.injEq] at hc
      subst hc
      exact wpC_block (wp1_wpC c ho h)
  | .loop c, k, Q, st, hc, h => by
    unfold comp at hc
    cases ho : comp lo c with
    | none => simp [ho] at hc
    | some k1 =>
      simp only [ho, Option.map_some, Option.some.injEq] at hc
      subst hc
      obtain ⟨I, μ, h0, h1⟩ := h
      refine wpC_loop I μ h0 fun s hs K hK => wpC_mono c (wp1_wpC c ho (h1 s hs)) (thenQ_mono (fun s' hs' => hK s' hs'.1 hs'.2) fun _ _ h => h)
  | .exit id, k, Q, st, hc, h => by unfold comp at hc; cases hc; rw [wpC_exit]; exact h
  | .ret, k, Q, st, hc, h => by unfold comp at hc; cases hc; rw [wpC_ret]; exact h
  | .scope c, _, _, _, hc, _ => by unfold comp at hc; cases hc
  | .rangeFunc .., _, _, _, hc, _ => by unfold comp at hc; cases hc
  | .label _, _, _, _, hc, _ => by unfold comp at hc; cases hc
  | .goto _, _, _, _, hc, _ => by unfold comp at hc; cases hc
  | .refuse _, _, _, _, hc, _ => by unfold comp at hc; cases hc

/-- A contract, by the calculus, of code laid out. -/
theorem callsF_of_wp1 {P : Program} {f : FuncId} {fn : Func} {c : Code} {k : Code1} (lo : Nat → List Nat) (hm : P.follows .mixedOrders = true) (hf : P.funcs[f]? = some fn) (hb : fn.body = some c) (hname : (fn.name == "runtime.NumGoroutine") = false) (hok : (decide (fn.ntmps ≤ base) && okCode fn.ntmps lo c) = true) (hc : comp lo c = some k) {rs : List ResultVar} (hrs : fn.results.toList = rs)
    {as : List Arg} {res : RV} {outs : List (Option Arg)} (hlen : as.length ≤ fn.ntmps) (hlike : Arg.like as outs) (hwp : wp1 P k (Fin (Back P rs as res outs)) (St.enter as)) : CallsF P f as res outs := by
  subst hrs
  exact callsF_of_wp lo hm hf hb hname hok hlen hlike (wp1_wpC c hc hwp)

/-! ### rules -/
theorem wp1_seq {P : Program} {a b : Code1} {Q : Ex → St → Prop} {st : St} (h : ∀ K : St → Prop, (∀ s, wp1 P b Q s → K s) → wp1 P a (thenQ K Q) st) : wp1 P (.seq a b) Q st := by
  show wp1 P a (thenQ (wp1 P b Q) Q) st
  exact h _ fun _ h => h
theorem wp1_block {P : Program} {id : Nat} {c : Code1} {Q : Ex → St → Prop} {st : St} (h : wp1 P c (inBlk id Q) st) : wp1 P (.block id c) Q st := h
theorem M_cons {P : Program} {dr : Bool} {lo : List Nat} {o : Op1} {l : List Op1} {st : St} {K : St → Prop} (h : ∀ K' : St → Prop, (∀ s, wpM P dr lo l s K → K' s) → stepG P dr lo o st K') : wpM P dr lo (o :: l) st K := by
  show stepG P dr lo o st fun st' => wpM P dr lo l st' K
  exact h _ fun _ h => h
theorem M_nil {P : Program} {dr : Bool} {lo : List Nat} {st : St} {K : St → Prop} (h : K st) : wpM P dr lo [] st K := h
theorem wp1_region {P : Program} {mk : List Nat} {dr : Bool} {lo : List Nat} {ops : List Op1} {Q : Ex → St → Prop} {st : St} (h : wpM P dr lo ops (st.kill mk) (Q .normal)) : wp1 P (.region mk dr lo ops) Q st := h
@[simp] theorem wp1_skip (P : Program) (Q : Ex → St → Prop) (st : St) : wp1 P .skip Q st = Q .normal st := rfl
@[simp] theorem wp1_exit (P : Program) (id : Nat) (Q : Ex → St → Prop) (st : St) : wp1 P (.exit id) Q st = Q (.exit id) st := rfl
@[simp] theorem wp1_ret (P : Program) (Q : Ex → St → Prop) (st : St) : wp1 P .ret Q st = Q .ret st := rfl
@[simp] theorem wpM_nil (P : Program) (dr : Bool) (lo : List Nat) (st : St) (K : St → Prop) : wpM P dr lo [] st K = K st := rfl
/-- A branch, as data. -/
def condK (g : Option Bool) (X Y : St → Prop) (st : St) : Prop := andT g fun b => onB b (X st) (Y st)
theorem wp1_cond {P : Program} {c : Operand} {x y : Code1} {Q : Ex → St → Prop} {st : St} (h : ∀ X Y : St → Prop, (∀ s, wp1 P x Q s → X s) → (∀ s, wp1 P y Q s → Y s) → condK (boolA (st.ev c)) X Y st) : wp1 P (.cond c x y) Q st := by
  exact h _ _ (fun _ h => h) (fun _ h => h)
@[simp] theorem condK_true (X Y : St → Prop) (st : St) : condK (some true) X Y st = X st := by simp [condK]
@[simp] theorem condK_false (X Y : St → Prop) (st : St) : condK (some false) X Y st = Y st := by simp [condK]
theorem condK_of {b : Bool} {X Y : St → Prop} {st : St} (h1 : b = true → X st) (h2 : b = false → Y st) : condK (some b) X Y st := by
  cases b
  · simpa using h2 rfl
  · simpa using h1 rfl
/-- An outcome, as data. -/
def outT (x : Option (AV × Eff)) (d : Option Nat) (st : St) (K : St → Prop) : Prop := andT x fun r => K ((st.eff r.2).put d r.1)
@[simp] theorem outT_some (r : AV × Eff) (d : Option Nat) (st : St) (K : St → Prop) : outT (some r) d st K = K ((st.eff r.2).put d r.1) := by simp [outT]
@[simp] theorem outT_none (d : Option Nat) (st : St) (K : St → Prop) : outT none d st K = False := by simp [outT]
theorem outT_ite {c : Prop} [Decidable c] {x y : Option (AV × Eff)} {d : Option Nat} {st : St} {K : St → Prop} (h1 : c → outT x d st K) (h2 : ¬ c → outT y d st K) : outT (if c then x else y) d st K := by
  split
  · exact h1 (by assumption)
  · exact h2 (by assumption)
def callT (P : Program) (f : FuncId) (mute : Bool) (st : St) (vs : List AV) (d : Option Nat) (K : St → Prop) : Prop := CallK P f mute st vs d K
@[simp] theorem stepG_none (P : Program) (dr : Bool) (lo : List Nat) (d : Option Nat) (op : Op) (st : St) (K : St → Prop) : stepG P dr lo ⟨d, op, none⟩ st K = step1 P dr lo d op st K := rfl
@[simp] theorem stepG_some (P : Program) (dr : Bool) (lo : List Nat) (d : Option Nat) (op : Op) (t : Nat) (want : Bool) (st : St) (K : St → Prop) : stepG P dr lo ⟨d, op, some (t, want)⟩ st K = guard1 P dr lo d op want (st.tm t) st K := rfl
@[simp] theorem guard1_tt (P : Program) (dr : Bool) (lo : List Nat) (d : Option Nat) (op : Op) (st : St) (K : St → Prop) : guard1 P dr lo d op true (.t (.v (.bool true))) st K = step1 P dr lo d op st K := by simp [guard1, wantA]
@[simp] theorem guard1_ff (P : Program) (dr : Bool) (lo : List Nat) (d : Option Nat) (op : Op) (st : St) (K : St → Prop) : guard1 P dr lo d op false (.t (.v (.bool false))) st K = step1 P dr lo d op st K := by simp [guard1, wantA]
@[simp] theorem guard1_tf (P : Program) (dr : Bool) (lo : List Nat) (d : Option Nat) (op : Op) (st : St) (K : St → Prop) : guard1 P dr lo d op true (.t (.v (.bool false))) st K = K (st.put d (.tup [])) := by simp [guard1, wantA]
@[simp] theorem guard1_ft (P : Program) (dr : Bool) (lo : List Nat) (d : Option Nat) (op : Op) (st : St) (K : St → Prop) : guard1 P dr lo d op false (.t (.v (.bool true))) st K = K (st.put d (.tup [])) := by simp [guard1, wantA]
@[simp] theorem guard1_no (P : Program) (dr : Bool) (lo : List Nat) (d : Option Nat) (op : Op) (want : Bool) (st : St) (K : St → Prop) : guard1 P dr lo d op want (.tup []) st K = K (st.put d (.tup [])) := by simp [guard1, wantA]
theorem guard1_or {P : Program} {dr : Bool} {lo : List Nat} {d : Option Nat} {op : Op} {want b : Bool} {st : St} {K : St → Prop} (h1 : b = true → guard1 P dr lo d op want (.t (.v (.bool true))) st K) (h2 : b = false → guard1 P dr lo d op want (.t (.v (.bool false))) st K) : guard1 P dr lo d op want (.t (.v (.bool b))) st K := by
  cases b
  · exact h2 rfl
  · exact h1 rfl
section
variable (P : Program) (dr : Bool) (lo : List Nat) (d : Option Nat) (st : St) (K : St → Prop)
@[simp] theorem step1_move (x : Operand) : step1 P dr lo d (.move x) st K = K (st.put d (st.ev x)) := by simp [step1, evOp, St.eff', noisy, muted]
@[simp] theorem step1_assign (x : Operand) : step1 P dr lo d (.assign x) st K = K (st.put d (st.ev x)) := by simp [step1, evOp, St.eff', noisy, muted]
@[simp] theorem step1_pick (a b c : Operand) : step1 P dr lo d (.pick a b c) st K = outT (pickA (st.ev a) (st.ev b) (st.ev c)) d st K := rfl
@[simp] theorem step1_alloc (t : TypeId) : step1 P dr lo d (.alloc t) st K = outT (evOp P (d.getD 0) st (.alloc t)) d st K := rfl
@[simp] theorem step1_box (t : TypeId) (x : Operand) : step1 P dr lo d (.box t x) st K = outT (evOp P (d.getD 0) st (.box t x)) d st K := rfl
@[simp] theorem step1_build (t : TypeId) (ps : Array (Nat × Operand)) : step1 P dr lo d (.build t ps) st K = outT (evOp P (d.getD 0) st (.build t ps)) d st K := rfl
@[simp] theorem step1_buildSlice (t : TypeId) (n : Nat) (ps : Array (Nat × Operand)) : step1 P dr lo d (.buildSlice t n ps) st K = outT (muted (muteB dr lo d) (d.getD 0) (evOp P (d.getD 0) st (.buildSlice t n ps))) d st K := rfl
@[simp] theorem step1_makeSlice (t : TypeId) (x y : Operand) : step1 P dr lo d (.makeSlice t x y) st K = outT (evOp P (d.getD 0) st (.makeSlice t x y)) d st K := rfl
@[simp] theorem step1_load (t : TypeId) (x : Operand) : step1 P dr lo d (.load t x) st K = outT (evOp P (d.getD 0) st (.load t x)) d st K := rfl
@[simp] theorem step1_store (t : TypeId) (x y : Operand) : step1 P dr lo d (.store t x y) st K = outT (evOp P (d.getD 0) st (.store t x y)) d st K := rfl
@[simp] theorem step1_nilCheck (x : Operand) : step1 P dr lo d (.nilCheck x) st K = outT (evOp P (d.getD 0) st (.nilCheck x)) d st K := rfl
@[simp] theorem step1_binOp (o : BinOp) (t : TypeId) (x y : Operand) (t2 : TypeId) : step1 P dr lo d (.binOp o t x y t2) st K = outT (evOp P (d.getD 0) st (.binOp o t x y t2)) d st K := rfl
@[simp] theorem step1_unOp (o : UnOp) (t : TypeId) (x : Operand) : step1 P dr lo d (.unOp o t x) st K = outT (evOp P (d.getD 0) st (.unOp o t x)) d st K := rfl
@[simp] theorem step1_convert (t t2 : TypeId) (x : Operand) : step1 P dr lo d (.convert t t2 x) st K = outT (evOp P (d.getD 0) st (.convert t t2 x)) d st K := rfl
@[simp] theorem step1_slice (t : TypeId) (x : Operand) (a b c : Option Operand) : step1 P dr lo d (.slice t x a b c) st K = outT (evOp P (d.getD 0) st (.slice t x a b c)) d st K := rfl
@[simp] theorem step1_fieldAddr (t : TypeId) (x : Operand) (f : Nat) : step1 P dr lo d (.fieldAddr t x f) st K = outT (evOp P (d.getD 0) st (.fieldAddr t x f)) d st K := rfl
@[simp] theorem step1_field (t : TypeId) (x : Operand) (f : Nat) : step1 P dr lo d (.field t x f) st K = outT (evOp P (d.getD 0) st (.field t x f)) d st K := rfl
@[simp] theorem step1_indexAddr (t : TypeId) (x y : Operand) : step1 P dr lo d (.indexAddr t x y) st K = outT (evOp P (d.getD 0) st (.indexAddr t x y)) d st K := rfl
@[simp] theorem step1_index (t : TypeId) (x y : Operand) : step1 P dr lo d (.index t x y) st K = outT (evOp P (d.getD 0) st (.index t x y)) d st K := rfl
@[simp] theorem step1_extract (x : Operand) (i : Nat) : step1 P dr lo d (.extract x i) st K = outT (evOp P (d.getD 0) st (.extract x i)) d st K := rfl
@[simp] theorem step1_builtin (b : Builtin) (xs : Array Operand) (ts : Array TypeId) : step1 P dr lo d (.call ⟨.builtin b, xs, ts⟩) st K = outT (evOp P (d.getD 0) st (.call ⟨.builtin b, xs, ts⟩)) d st K := rfl
@[simp] theorem step1_call (f : FuncId) (xs : Array Operand) (ts : Array TypeId) : step1 P dr lo d (.call ⟨.value (.func f), xs, ts⟩) st K = callT P f (muteB dr lo d) st (xs.toList.map st.ev) d K := rfl
end
/-- A loop, its invariant with a number that falls. -/
theorem wp1_loop {P : Program} {c : Code1} {Q : Ex → St → Prop} {st : St} (I : Nat → St → Prop) (n : Nat) (h0 : I n st)
    (h : ∀ n s, I n s → ∀ K : St → Prop, (∀ m s', m < n → I m s' → K s') → wp1 P c (thenQ K Q) s) : wp1 P (.loop c) Q st := by
  classical
  have least : ∀ s, (∃ n, I n s) → ∃ n, I n s ∧ ∀ k, I k s → n ≤ k := fun s ⟨n, hn⟩ => by
    induction n using Nat.strongRecOn with
    | _ n ih =>
      by_cases hlt : ∃ k, k < n ∧ I k s
      · obtain ⟨k, hk1, hk2⟩ := hlt
        exact ih k hk1 hk2
      · exact ⟨n, hn, fun k hk => Nat.le_of_not_lt fun hlt' => hlt ⟨k, hlt', hk⟩⟩
  let μ : St → Nat := fun s => if hex : ∃ n, I n s then (least s hex).choose else 0
  refine ⟨fun s => ∃ n, I n s, μ, ⟨n, h0⟩, fun s hex => ?_⟩
  have hs := (least s hex).choose_spec
  refine h _ s hs.1 _ fun m s' hm hI => ?_
  have hex' : ∃ n, I n s' := ⟨m, hI⟩
  have h1 : μ s' = (least s' hex').choose := by simp only [μ, dif_pos hex']
  have h2 : μ s = (least s hex).choose := by simp only [μ, dif_pos hex]
  have h3 := (least s' hex').choose_spec.2 m hI
  exact ⟨⟨m, hI⟩, by omega⟩

/-- A call whose result names nothing. -/
theorem callT_flat {P : Program} {f : FuncId} {mute : Bool} {st : St} {vs : List AV} {d : Option Nat} {K : St → Prop} {as : List Arg} {res : RV} (h : CallsF P f as res []) (hf : res.flat) (ha : st.args vs as) (hm : mutsOf vs as = [])
    (hK : K ((st.eff (retOf d res).2).put d (retOf d res).1)) : callT P f mute st vs d K := by
  have ho : outEff vs as [] = [] := by
    have := outEff_ids (st := st) ha h.2.1
    rw [hm] at this
    exact List.map_eq_nil_iff.1 this
  unfold callT CallK
  refine ⟨nones as, vs, as, res, [], true, flatV_args ha, ha, ⟨by rw [hm]; exact List.nodup_nil, by rw [hm]; simp⟩, h, fun _ => ⟨hf, trivial⟩, fun _ => by simp [callFrz, ho], ?_⟩
  simpa [callFrz, ho] using hK
theorem callT_gen {P : Program} {f : FuncId} {mute : Bool} {st : St} {vs : List AV} {d : Option Nat} {K : St → Prop} {as : List Arg} {res : RV} {outs : List (Option Arg)} (keep : Bool) (h : CallsF P f as res outs) (hf : keep = true → res.flat ∧ Arg.flats outs) (ha : st.args vs as) (hm : apartArgs vs as)
    (hmu : mute = true → callFrz keep st vs as ++ outEff vs as outs = [])
    (hK : K ((st.eff (callFrz keep st vs as ++ outEff vs as outs ++ (retOf d res).2)).put d (retOf d res).1)) : callT P f mute st vs d K := by
  unfold callT CallK
  exact ⟨nones as, vs, as, res, outs, keep, flatV_args ha, ha, hm, h, hf, hmu, hK⟩

theorem callT_sh {P : Program} {f : FuncId} {mute : Bool} {st : St} {vs : List AV} {d : Option Nat} {K : St → Prop} {sh : Shape} {vsF : List AV} {as : List Arg} {res : RV} {outs : List (Option Arg)} (keep : Bool) (h : CallsFS P f sh as res outs) (hfl : flatV sh vs = some vsF) (ha : st.args vsF as) (hf : keep = true → res.flat ∧ Arg.flats outs) (hm : apartArgs vsF as)
    (hmu : mute = true → callFrz keep st vsF as ++ outEff vsF as outs = [])
    (hK : K ((st.eff (callFrz keep st vsF as ++ outEff vsF as outs ++ (retOf d res).2)).put d (retOf d res).1)) : callT P f mute st vs d K := by
  unfold callT CallK
  exact ⟨sh, vsF, as, res, outs, keep, hfl, ha, hm, h, hf, hmu, hK⟩

attribute [irreducible] wp1 wpM stepG step1 guard1 condK outT callT

end Cal

/- A calculus of our own, thirty-third part: objects under other names; code with such steps ahead of its regions. No program is named here. -/
set_option linter.unusedSimpArgs false
set_option linter.unusedVariables false
namespace Cal
open Go Go.RowKit

/-- Whatever the first state stands for, the second does too. -/
def Weaker (st st' : St) : Prop := ∀ (w0 : World) (S0 : Nat → Prop) (own : List Nat) (H : Nat → Nat × Nat) (N : Nat) (a : Act) (w : World), Rel w0 S0 own H N st a w → Rel w0 S0 own H N st' a w
theorem Weaker.refl (st : St) : Weaker st st := fun _ _ _ _ _ _ _ h => h
theorem Weaker.trans {a b c : St} (h : Weaker a b) (k : Weaker b c) : Weaker a c := fun w0 S0 own H N x w hr => k w0 S0 own H N x w (h w0 S0 own H N x w hr)
theorem Weaker.kill (st : St) (ds : List Nat) : Weaker st (st.kill ds) := fun _ _ _ _ _ _ _ h => h.kill ds

/-! ### other names -/
def renI (d e : Nat) (id : Id) : Id := if id.1 = d then (e, id.2) else id
mutual
def AV.ren (d e : Nat) : AV → AV
  | .row id sz i n => .row (renI d e id) sz i n
  | .ptr id i j => .ptr (renI d e id) i j
  | .agg cs => .agg (AV.rens d e cs)
  | .tup cs => .tup (AV.rens d e cs)
  | v => v
def AV.rens (d e : Nat) : List AV → List AV
  | [] => []
  | v :: vs => v.ren d e :: AV.rens d e vs
end
def Ob.ren (d e : Nat) : Ob → Ob
  | .var cs => .var (AV.rens d e cs)
  | o => o
def St.ren (d e : Nat) (s : St) : St where
  tm := fun t => (s.tm t).ren d e
  ob := fun id => if id.1 = e then (s.ob (d, id.2)).map (Ob.ren d e) else if id.1 = d then none else (s.ob id).map (Ob.ren d e)

theorem rens_length (d e : Nat) : ∀ vs : List AV, (AV.rens d e vs).length = vs.length
  | [] => rfl
  | v :: vs => by simp [AV.rens, rens_length d e vs]

theorem ren_ob {s : St} {d e : Nat} (hf : s.Free (·.1 = e)) (id : Id) (hid : id.1 ≠ e) : (s.ren d e).ob (renI d e id) = (s.ob id).map (Ob.ren d e) := by
  unfold renI
  split
  · rename_i h
    have : id = (d, id.2) := by rw [← h]
    simp only [St.ren, if_true]
    rw [← this]
  · rename_i h
    simp only [St.ren, if_neg hid, if_neg h]

theorem map_ren_row {o : Option Ob} {d e sz : Nat} {es : List (List T)} (h : o.map (Ob.ren d e) = some (.row sz es)) : o = some (.row sz es) := by
  cases o with
  | none => cases h
  | some o => cases o <;> simp [Ob.ren] at h <;> simp [h]
theorem map_ren_frz {o : Option Ob} {d e sz : Nat} {es : List (List T)} (h : o.map (Ob.ren d e) = some (.frz sz es)) : o = some (.frz sz es) := by
  cases o with
  | none => cases h
  | some o => cases o <;> simp [Ob.ren] at h <;> simp [h]
theorem map_ren_var {o : Option Ob} {d e : Nat} {cs : List AV} (h : o.map (Ob.ren d e) = some (.var cs)) : ∃ cs', o = some (.var cs') ∧ cs = AV.rens d e cs' := by
  cases o with
  | none => cases h
  | some o =>
    cases o with
    | var cs' =>
      simp only [Option.map_some, Ob.ren, Option.some.injEq, Ob.var.injEq] at h
      exact ⟨cs', rfl, h.symm⟩
    | row _ _ => cases h
    | frz _ _ => cases h

mutual
theorem ren_rep {w : World} {S : Nat → Prop} {m cap m' cap' : Id → Nat} {s : St} {d e : Nat} (hf : s.Free (·.1 = e)) (hm : ∀ id : Id, id.1 ≠ e → m' (renI d e id) = m id ∧ cap' (renI d e id) = cap id) :
    ∀ (v : AV) (u : Value), v.free (·.1 = e) → AVrep w S m cap s.ob v u → AVrep w S m' cap' (s.ren d e).ob (v.ren d e) u
  | .t x, u, _, h => by
    unfold AV.ren
    unfold AVrep at *
    exact h
  | .row id sz i n, u, hv, h => by
    unfold AV.free at hv
    unfold AV.ren
    unfold AVrep at *
    obtain ⟨A, c, h1, h2, h3, h4, h5, h6⟩ := h
    obtain ⟨e1, e2⟩ := hm id hv
    refine ⟨A, c, h1, h2, h3, h4, fun cs hcs => ?_, fun sz' es hes => ?_⟩
    · rw [ren_ob hf id hv] at hcs
      obtain ⟨cs', k, _⟩ := map_ren_var hcs
      exact h5 cs' k
    · rw [ren_ob hf id hv] at hes
      rw [e1, e2]
      refine h6 sz' es ?_
      rcases hes with hes | hes
      · exact .inl (map_ren_row hes)
      · exact .inr (map_ren_frz hes)
  | .ptr id i j, u, hv, h => by
    unfold AV.free at hv
    unfold AV.ren
    unfold AVrep at *
    obtain ⟨a, h1, h2, h3⟩ := h
    obtain ⟨e1, e2⟩ := hm id hv
    refine ⟨a, h1, fun cs hcs hi => ?_, fun sz es hes hi => ?_⟩
    · rw [ren_ob hf id hv] at hcs
      obtain ⟨cs', k, _⟩ := map_ren_var hcs
      rw [e1]
      exact h2 cs' k hi
    · rw [ren_ob hf id hv] at hes
      rw [e1]
      refine h3 sz es ?_ hi
      rcases hes with hes | hes
      · exact .inl (map_ren_row hes)
      · exact .inr (map_ren_frz hes)
  | .roptr cs, u, _, h => by
    unfold AV.ren
    unfold AVrep at *
    exact h
  | .agg cs, u, hv, h => by
    unfold AV.free at hv
    unfold AV.ren
    unfold AVrep at *
    obtain ⟨us, h1, h2⟩ := h
    exact ⟨us, h1, rens_rep hf hm cs us hv h2⟩
  | .tup cs, u, hv, h => by
    unfold AV.free at hv
    unfold AV.ren
    unfold AVrep at *
    obtain ⟨us, h1, h2⟩ := h
    exact ⟨us, h1, rens_rep hf hm cs us hv h2⟩
  | .bad, u, _, _ => by unfold AV.ren AVrep; trivial
theorem rens_rep {w : World} {S : Nat → Prop} {m cap m' cap' : Id → Nat} {s : St} {d e : Nat} (hf : s.Free (·.1 = e)) (hm : ∀ id : Id, id.1 ≠ e → m' (renI d e id) = m id ∧ cap' (renI d e id) = cap id) :
    ∀ (vs : List AV) (us : List Value), AV.frees (·.1 = e) vs → AVreps w S m cap s.ob vs us → AVreps w S m' cap' (s.ren d e).ob (AV.rens d e vs) us
  | [], us, _, h => by
    unfold AV.rens
    unfold AVreps at *
    exact h
  | v :: vs, us, hv, h => by
    unfold AV.frees at hv
    unfold AV.rens
    unfold AVreps at *
    obtain ⟨u, us', h1, h2, h3⟩ := h
    exact ⟨u, us', h1, ren_rep hf hm v u hv.1 h2, rens_rep hf hm vs us' hv.2 h3⟩
end

def renM (d e : Nat) (m : Id → Nat) : Id → Nat := fun id => if id.1 = e then m (d, id.2) else m id
theorem renM_ren {d e : Nat} {m : Id → Nat} {id : Id} (hid : id.1 ≠ e) : renM d e m (renI d e id) = m id := by
  unfold renM renI
  by_cases h1 : id.1 = d
  · have : id = (d, id.2) := by rw [← h1]
    rw [if_pos h1, if_pos rfl]
    rw [← this]
  · rw [if_neg h1, if_neg hid]

theorem RelAt.ren {w0 w : World} {S0 S : Nat → Prop} {own : List Nat} {N : Nat} {m cap : Id → Nat} {s : St} {a : Act} {d e : Nat} (hde : d ≠ e) (h : RelAt w0 S0 own N m cap S s a w) (hf : s.Free (·.1 = e)) :
    RelAt w0 S0 own N (renM d e m) (renM d e cap) S (s.ren d e) a w := by
  have hm : ∀ id : Id, id.1 ≠ e → renM d e m (renI d e id) = m id ∧ renM d e cap (renI d e id) = cap id := fun id hid => ⟨renM_ren hid, renM_ren hid⟩
  -- an object that lives has a name from before
  have back : ∀ id o, (s.ren d e).ob id = some o → ∃ id0 o0, s.ob id0 = some o0 ∧ id0.1 ≠ e ∧ id = renI d e id0 ∧ o = o0.ren d e := fun id o ho => by
    have hne : ∀ id0 o0, s.ob id0 = some o0 → id0.1 ≠ e := fun id0 o0 h0 h1 => by rw [hf.none id0 h1] at h0; cases h0
    simp only [St.ren] at ho
    split at ho
    · rename_i h1
      cases hob : s.ob (d, id.2) with
      | none => rw [hob] at ho; cases ho
      | some o0 =>
        rw [hob] at ho
        refine ⟨(d, id.2), o0, hob, hde, ?_, by simpa using ho.symm⟩
        unfold renI
        simp only [if_true]
        rw [← h1]
    · rename_i h1
      split at ho
      · cases ho
      · rename_i h2
        cases hob : s.ob id with
        | none => rw [hob] at ho; cases ho
        | some o0 =>
          rw [hob] at ho
          refine ⟨id, o0, hob, h1, ?_, by simpa using ho.symm⟩
          unfold renI
          rw [if_neg h2]
  refine ⟨h.size, h.defers, h.after, h.stab, h.base, h.fresh, fun id o ho => ?_, fun id o ho => ?_, fun id id' h1 h2 he => ?_, fun t ht => ?_, fun t ht => ?_⟩
  · obtain ⟨id0, o0, h0, h1, rfl, rfl⟩ := back id o ho
    have hob := h.obs id0 o0 h0
    obtain ⟨e1, e2⟩ := hm id0 h1
    cases o0 with
    | var cs =>
      obtain ⟨⟨arr, ty, k1, k2⟩, k3⟩ := hob
      refine ⟨⟨arr, ty, ?_, ?_⟩, ?_⟩
      · rw [e1]; exact k1
      · exact rens_rep hf hm cs _ (hf.var id0 cs h0) k2
      · rw [e1]; exact k3
    | row sz es =>
      obtain ⟨k1, k3⟩ := hob
      unfold Ob.ren ObRep
      rw [e1, e2]
      exact ⟨k1, k3⟩
    | frz sz es =>
      obtain ⟨k1, k3⟩ := hob
      unfold Ob.ren ObRep
      rw [e1, e2]
      exact ⟨k1, k3⟩
  · obtain ⟨id0, o0, h0, h1, rfl, rfl⟩ := back id o ho
    rw [(hm id0 h1).1]
    exact h.mine id0 o0 h0
  · obtain ⟨o1, h1⟩ := Option.ne_none_iff_exists'.1 h1
    obtain ⟨o2, h2⟩ := Option.ne_none_iff_exists'.1 h2
    obtain ⟨i1, p1, q1, q2, rfl, _⟩ := back id o1 h1
    obtain ⟨i2, p2, q3, q4, rfl, _⟩ := back id' o2 h2
    rw [(hm i1 q2).1, (hm i2 q4).1] at he
    rw [h.inj i1 i2 (by rw [q1]; simp) (by rw [q3]; simp) he]
  · exact ren_rep hf hm _ _ (hf.tm t) (h.tm t ht)
  · simp only [St.ren, h.far t ht, AV.ren]

/-- An object under another name. -/
theorem Weaker.ren (st : St) (d e : Nat) (hde : d ≠ e) (hd : d < base) (he : e < base) : Weaker st ((st.kill [e]).ren d e) := by
  intro w0 S0 own H N a w ⟨m, cap, S, h, hH⟩
  have hf : (st.kill [e]).Free (·.1 = e) := (St.kill_free st [e]).mono fun id hid => by simp [hid]
  refine ⟨_, _, S, RelAt.ren hde (h.kill [e]) hf, fun k => ?_⟩
  have : base + k ≠ e := by omega
  unfold renM
  rw [if_neg this, if_neg this]
  exact hH k

/-! ### code with such steps -/
def wp2 (P : Program) : Code1 → (Ex → St → Prop) → St → Prop
  | .skip, Q, st => Q .normal st
  | .region mk dr lo ops, Q, st => ∃ st', Weaker st st' ∧ wpM P dr lo ops (st'.kill mk) (Q .normal)
  | .seq a b, Q, st => wp2 P a (thenQ (wp2 P b Q) Q) st
  | .cond c x y, Q, st => andT (boolA (st.ev c)) fun b => onB b (wp2 P x Q st) (wp2 P y Q st)
  | .block id c, Q, st => wp2 P c (inBlk id Q) st
  | .loop c, Q, st => ∃ (I : St → Prop) (μ : St → Nat), I st ∧ ∀ st, I st → wp2 P c (thenQ (fun st' => I st' ∧ μ st' < μ st) Q) st
  | .exit id, Q, st => Q (.exit id) st
  | .ret, Q, st => Q .ret st

section
variable {P : Program} {w0 w : World} {S0 S : Nat → Prop} {own : List Nat} {H : Nat → Nat × Nat} {N : Nat} {m cap : Id → Nat} {st : St} {a : Act}

theorem code2_sound (hm : P.follows .mixedOrders = true) (hN : N ≤ base) (lo : Nat → List Nat) : ∀ (c : Code) {k : Code1} {Q : Ex → St → Prop} {st : St} {a : Act} {w : World}, comp lo c = some k → okCode N lo c = true → Rel w0 S0 own H N st a w → wp2 P k Q st → c.wp P (RQ w0 S0 own H N Q) a w
  | .skip, k, Q, st, a, w, hc, _, hr, h => by unfold comp at hc; cases hc; exact wp_skip ⟨st, hr, h⟩
  | .region id ops dr, k, Q, st, a, w, hc, hok, hr, h => by
    unfold comp at hc
    cases ho : comps ops ops.toList with
    | none => simp [ho] at hc
    | some os1 =>
      simp only [ho, Option.map_some, Option.some.injEq] at hc
      subst hc
      obtain ⟨st', hw, h⟩ := h
      exact region_sound hm hN hok (hw _ _ _ _ _ _ _ hr) (wpM_wpL ho h)
  | .seq x y, k, Q, st, a, w, hc, hok, hr, h => by
    unfold comp at hc
    obtain ⟨k1, k2, hx, hy, rfl⟩ := two_inv hc
    unfold okCode at hok
    simp only [Bool.and_eq_true] at hok
    refine wp_seq (wp_mono (code2_sound hm hN lo x hx hok.1 hr h) fun e a' w' he => ?_)
    cases e with
    | normal =>
      obtain ⟨st', hr', h'⟩ := he
      exact code2_sound hm hN lo y hy hok.2 hr' h'
    | exit id => exact he
    | ret => exact he
    | goto l => exact he.elim
    | panic c => exact he.elim
    | outgrown => exact he.elim
  | .cond c x y, k, Q, st, a, w, hc, hok, hr, h => by
    unfold comp at hc
    obtain ⟨k1, k2, hx, hy, rfl⟩ := two_inv hc
    unfold okCode at hok
    simp only [Bool.and_eq_true] at hok
    obtain ⟨b, hb, h⟩ := h
    have hev : a.eval c = .bool b := by
      obtain ⟨m, cap, S, hr, _⟩ := hr
      have := hr.ev c
      unfold boolA at hb
      split at hb
      · rename_i b' hb'
        cases hb
        rw [hb'] at this
        exact (AVrep_v_inv this).1
      · cases hb
    refine wp_cond hev ?_
    cases b with
    | true => exact code2_sound hm hN lo x hx hok.1 hr h
    | false => exact code2_sound hm hN lo y hy hok.2 hr h
  | .block id c, k, Q, st, a, w, hc, hok, hr, h => by
    unfold comp at hc
    cases ho : comp lo c with
    | none => simp [ho] at hc
    | some k1 =>
      simp only [ho, Option.map_some, Option.some.injEq] at hc
      subst hc
      unfold okCode at hok
      refine wp_block (wp_mono (code2_sound hm hN lo c ho hok hr h) fun e a' w' he => ?_)
      cases e with
      | normal => exact he
      | exit i =>
        obtain ⟨st', hr', h'⟩ := he
        unfold Exit.inBlock
        simp only [inBlk] at h'
        dsimp only
        split
        · rename_i hi; rw [if_pos hi] at h'; exact ⟨st', hr', h'⟩
        · rename_i hi; rw [if_neg hi] at h'; exact ⟨st', hr', h'⟩
      | ret => exact he
      | goto l => exact he.elim
      | panic c => exact he.elim
      | outgrown => exact he.elim
  | .loop c, k, Q, st, a, w, hc, hok, hr, h => by
    unfold comp at hc
    cases ho : comp lo c with
    | none => simp [ho] at hc
    | some k1 =>
      simp only [ho, Option.map_some, Option.some.injEq] at hc
      subst hc
      unfold okCode at hok
      obtain ⟨I, μ, h0, h1⟩ := h
      let J : Act → World → Nat → Prop := fun a w n => ∃ st, Rel w0 S0 own H N st a w ∧ I st ∧ μ st = n
      classical
      have least : ∀ a w, (∃ n, J a w n) → ∃ n, J a w n ∧ ∀ k, J a w k → n ≤ k := fun a w ⟨n, hn⟩ => by
        induction n using Nat.strongRecOn with
        | _ n ih =>
          by_cases hlt : ∃ k, k < n ∧ J a w k
          · obtain ⟨k, hk1, hk2⟩ := hlt
            exact ih k hk1 hk2
          · exact ⟨n, hn, fun k hk => Nat.le_of_not_lt fun hlt' => hlt ⟨k, hlt', hk⟩⟩
      let μ' : Act → World → Nat := fun a w => if hex : ∃ n, J a w n then (least a w hex).choose else 0
      refine wp_loop (fun a w => ∃ n, J a w n) μ' ⟨μ st, st, hr, h0, rfl⟩ fun a w hex => ?_
      have hμ : μ' a w = (least a w hex).choose := by simp only [μ', dif_pos hex]
      obtain ⟨⟨st1, hr1, hI1, hm1⟩, _⟩ := (least a w hex).choose_spec
      refine wp_mono (code2_sound hm hN lo c ho hok hr1 (h1 st1 hI1)) fun e a' w' he => ?_
      cases e with
      | normal =>
        obtain ⟨st', hr', hI', hlt⟩ := he
        have hex' : ∃ n, J a' w' n := ⟨μ st', st', hr', hI', rfl⟩
        refine ⟨hex', ?_⟩
        have hle := (least a' w' hex').choose_spec.2 (μ st') ⟨st', hr', hI', rfl⟩
        have hμ' : μ' a' w' = (least a' w' hex').choose := by simp only [μ', dif_pos hex']
        omega
      | exit id => exact he
      | ret => exact he
      | goto l => exact he.elim
      | panic c => exact he.elim
      | outgrown => exact he.elim
  | .exit id, k, Q, st, a, w, hc, _, hr, h => by unfold comp at hc; cases hc; exact wp_exit ⟨st, hr, h⟩
  | .ret, k, Q, st, a, w, hc, _, hr, h => by unfold comp at hc; cases hc; exact wp_ret ⟨st, hr, h⟩
  | .scope c, _, _, _, _, _, hc, _, _, _ => by unfold comp at hc; cases hc
  | .rangeFunc .., _, _, _, _, _, hc, _, _, _ => by unfold comp at hc; cases hc
  | .label _, _, _, _, _, _, hc, _, _, _ => by unfold comp at hc; cases hc
  | .goto _, _, _, _, _, _, hc, _, _, _ => by unfold comp at hc; cases hc
  | .refuse _, _, _, _, _, _, hc, _, _, _ => by unfold comp at hc; cases hc
end

/-- A contract, by the calculus, with steps that give objects other names. -/
theorem callsF_of_wp2 {P : Program} {f : FuncId} {fn : Func} {c : Code} {k : Code1} (lo : Nat → List Nat) (hm : P.follows .mixedOrders = true) (hf : P.funcs[f]? = some fn) (hb : fn.body = some c) (hname : (fn.name == "runtime.NumGoroutine") = false) (hok : (decide (fn.ntmps ≤ base) && okCode fn.ntmps lo c) = true) (hc : comp lo c = some k) {rs : List ResultVar} (hrs : fn.results.toList = rs)
    {as : List Arg} {res : RV} {outs : List (Option Arg)} (hlen : as.length ≤ fn.ntmps) (hlike : Arg.like as outs) (hwp : wp2 P k (Fin (Back P rs as res outs)) (St.enter as)) : CallsF P f as res outs := by
  subst hrs
  simp only [Bool.and_eq_true, decide_eq_true_eq] at hok
  refine ⟨⟨fn, hf, hname, by rw [hb]; rfl⟩, hlike, fun w S us usF ab hS hfl harg hn hlt => ?_⟩
  obtain rfl := flatU_nones _ _ _ hfl
  obtain ⟨g, rfl, hr⟩ := enter_rel hS harg hn hlt hlen
  refine calls_of_wp hf hb (wp_mono (code2_sound hm hok.1 lo c hc hok.2 hr hwp) fun e a' w' he => ?_)
  cases e with
  | normal =>
    obtain ⟨st, h1, h2⟩ := he
    exact back_post h1 h2
  | ret =>
    obtain ⟨st, h1, h2⟩ := he
    exact back_post h1 h2
  | exit i =>
    obtain ⟨st, h1, h2⟩ := he
    exact h2.elim
  | goto l => exact he.elim
  | panic c => exact he.elim
  | outgrown => exact he.elim

/-! ### rules -/
section
variable {P : Program} {Q : Ex → St → Prop} {st : St}
theorem wp2_mono : ∀ (c : Code1) {Q Q' : Ex → St → Prop} {st : St}, wp2 P c Q st → (∀ e s, Q e s → Q' e s) → wp2 P c Q' st
  | .skip, _, _, _, h, hq => hq _ _ h
  | .region mk dr lo ops, _, _, _, h, hq => by
    obtain ⟨st', h1, h2⟩ := h
    exact ⟨st', h1, wpM_mono h2 fun s hs => hq _ _ hs⟩
  | .seq a b, _, _, _, h, hq => wp2_mono a h (thenQ_mono (fun s hs => wp2_mono b hs hq) hq)
  | .cond c x y, _, _, _, h, hq => andT_mono h fun b hb => onB_mono hb (fun h1 => wp2_mono x h1 hq) (fun h1 => wp2_mono y h1 hq)
  | .block id c, _, _, _, h, hq => wp2_mono c h (inBlk_mono hq)
  | .loop c, _, _, _, h, hq => by
    obtain ⟨I, μ, h0, h1⟩ := h
    exact ⟨I, μ, h0, fun s hs => wp2_mono c (h1 s hs) (thenQ_mono (fun _ h => h) hq)⟩
  | .exit _, _, _, _, h, hq => hq _ _ h
  | .ret, _, _, _, h, hq => hq _ _ h
theorem wp2_seq {a b : Code1} (h : ∀ K : St → Prop, (∀ s, wp2 P b Q s → K s) → wp2 P a (thenQ K Q) st) : wp2 P (.seq a b) Q st := by
  show wp2 P a (thenQ (wp2 P b Q) Q) st
  exact h _ fun _ h => h
theorem wp2_block {id : Nat} {c : Code1} (h : wp2 P c (inBlk id Q) st) : wp2 P (.block id c) Q st := h
theorem wp2_region {mk : List Nat} {dr : Bool} {lo : List Nat} {ops : List Op1} (h : wpM P dr lo ops (st.kill mk) (Q .normal)) : wp2 P (.region mk dr lo ops) Q st := ⟨st, Weaker.refl _, h⟩
theorem wp2_rename (d e : Nat) (hde : (decide (d ≠ e) && decide (d < base) && decide (e < base)) = true) {mk : List Nat} {dr : Bool} {lo : List Nat} {ops : List Op1} (h : wpM P dr lo ops (((st.kill [e]).ren d e).kill mk) (Q .normal)) : wp2 P (.region mk dr lo ops) Q st := by
  simp only [Bool.and_eq_true, decide_eq_true_eq] at hde
  exact ⟨_, Weaker.ren st d e hde.1.1 hde.1.2 hde.2, h⟩
@[simp] theorem wp2_skip (P : Program) (Q : Ex → St → Prop) (st : St) : wp2 P .skip Q st = Q .normal st := rfl
@[simp] theorem wp2_exit (P : Program) (id : Nat) (Q : Ex → St → Prop) (st : St) : wp2 P (.exit id) Q st = Q (.exit id) st := rfl
@[simp] theorem wp2_ret (P : Program) (Q : Ex → St → Prop) (st : St) : wp2 P .ret Q st = Q .ret st := rfl
theorem wp2_cond {c : Operand} {x y : Code1} (h : ∀ X Y : St → Prop, (∀ s, wp2 P x Q s → X s) → (∀ s, wp2 P y Q s → Y s) → condK (boolA (st.ev c)) X Y st) : wp2 P (.cond c x y) Q st := by
  have := h _ _ (fun _ h => h) (fun _ h => h)
  unfold condK at this
  exact this
theorem wp2_loop {c : Code1} (I : Nat → St → Prop) (n : Nat) (h0 : I n st)
    (h : ∀ n s, I n s → ∀ K : St → Prop, (∀ m s', m < n → I m s' → K s') → wp2 P c (thenQ K Q) s) : wp2 P (.loop c) Q st := by
  classical
  have least : ∀ s, (∃ n, I n s) → ∃ n, I n s ∧ ∀ k, I k s → n ≤ k := fun s ⟨n, hn⟩ => by
    induction n using Nat.strongRecOn with
    | _ n ih =>
      by_cases hlt : ∃ k, k < n ∧ I k s
      · obtain ⟨k, hk1, hk2⟩ := hlt
        exact ih k hk1 hk2
      · exact ⟨n, hn, fun k hk => Nat.le_of_not_lt fun hlt' => hlt ⟨k, hlt', hk⟩⟩
  let μ : St → Nat := fun s => if hex : ∃ n, I n s then (least s hex).choose else 0
  refine ⟨fun s => ∃ n, I n s, μ, ⟨n, h0⟩, fun s hex => ?_⟩
  have hs := (least s hex).choose_spec
  refine h _ s hs.1 _ fun m s' hm hI => ?_
  have hex' : ∃ n, I n s' := ⟨m, hI⟩
  have h1 : μ s' = (least s' hex').choose := by simp only [μ, dif_pos hex']
  have h2 : μ s = (least s hex).choose := by simp only [μ, dif_pos hex]
  have h3 := (least s' hex').choose_spec.2 m hI
  exact ⟨⟨m, hI⟩, by omega⟩
end
@[simp] theorem tm_ren (s : St) (d e t : Nat) : (s.ren d e).tm t = (s.tm t).ren d e := rfl
@[simp] theorem ob_ren (s : St) (d e a b : Nat) : (s.ren d e).ob (a, b) = if a = e then (s.ob (d, b)).map (Ob.ren d e) else if a = d then none else (s.ob (a, b)).map (Ob.ren d e) := rfl
@[simp] theorem ren_t (d e : Nat) (x : T) : (AV.t x).ren d e = .t x := rfl
@[simp] theorem ren_row (d e a b sz i n : Nat) : (AV.row (a, b) sz i n).ren d e = .row (if a = d then (e, b) else (a, b)) sz i n := rfl
@[simp] theorem ren_ptr (d e a b i n : Nat) : (AV.ptr (a, b) i n).ren d e = .ptr (if a = d then (e, b) else (a, b)) i n := rfl
@[simp] theorem ren_roptr (d e : Nat) (cs : List T) : (AV.roptr cs).ren d e = .roptr cs := rfl
@[simp] theorem ren_bad (d e : Nat) : AV.bad.ren d e = .bad := rfl
@[simp] theorem ren_agg (d e : Nat) (cs : List AV) : (AV.agg cs).ren d e = .agg (AV.rens d e cs) := rfl
@[simp] theorem ren_tup (d e : Nat) (cs : List AV) : (AV.tup cs).ren d e = .tup (AV.rens d e cs) := rfl
@[simp] theorem rens_nil (d e : Nat) : AV.rens d e [] = [] := rfl
@[simp] theorem rens_cons (d e : Nat) (v : AV) (vs : List AV) : AV.rens d e (v :: vs) = v.ren d e :: AV.rens d e vs := rfl
@[simp] theorem obren_var (d e : Nat) (cs : List AV) : (Ob.var cs).ren d e = .var (AV.rens d e cs) := rfl
@[simp] theorem obren_row (d e sz : Nat) (es : List (List T)) : (Ob.row sz es).ren d e = .row sz es := rfl
@[simp] theorem obren_frz (d e sz : Nat) (es : List (List T)) : (Ob.frz sz es).ren d e = .frz sz es := rfl

attribute [irreducible] wp2

end Cal

/- A calculus of our own, thirty-fourth part: functions that are handed structs of rows to be written. No program is named here. -/
set_option linter.unusedSimpArgs false
set_option linter.unusedVariables false
namespace Cal
open Go Go.RowKit

variable {P : Program} {w0 w : World} {S0 S : Nat → Prop} {own : List Nat} {N : Nat} {m cap : Id → Nat} {st : St} {a : Act}

theorem flatU_len : ∀ {sh : Shape} {us usF : List Value}, flatU sh us = some usF → us.length = sh.length
  | [], [], _, _ => rfl
  | [], _ :: _, _, h => by simp [flatU] at h
  | none :: _, [], _, h => by simp [flatU] at h
  | some _ :: _, [], _, h => by simp [flatU] at h
  | none :: sh, u :: us, usF, h => by
    simp only [flatU] at h
    cases hl : flatU sh us with
    | none => rw [hl] at h; cases h
    | some l => simp [flatU_len hl]
  | some n :: sh, u :: us, usF, h => by
    cases u with
    | agg cs =>
      simp only [flatU] at h
      split at h
      · cases hl : flatU sh us with
        | none => rw [hl] at h; cases h
        | some l => simp [flatU_len hl]
      · cases h
    | _ => simp [flatU] at h

theorem enterTm_rep {ob : Id → Option Ob} {as : List Arg} : ∀ {sh : Shape} {us usF : List Value} {k : Nat}, flatU sh us = some usF → (∀ j u, usF[j]? = some u → AVrep w S m cap ob (argTm as (k + j)) u) → ∀ t u, us[t]? = some u → AVrep w S m cap ob (enterTm as sh k t) u
  | [], [], _, _, _, _, t, u, h => by simp at h
  | [], _ :: _, _, _, h, _, _, _, _ => by simp [flatU] at h
  | none :: _, [], _, _, h, _, _, _, _ => by simp [flatU] at h
  | some _ :: _, [], _, _, h, _, _, _, _ => by simp [flatU] at h
  | none :: sh, u0 :: us, usF, k, h, hr, t, u, hu => by
    simp only [flatU] at h
    cases hl : flatU sh us with
    | none => rw [hl] at h; cases h
    | some l =>
      rw [hl] at h
      simp only [Option.map_some, Option.some.injEq] at h
      subst h
      cases t with
      | zero =>
        simp at hu
        subst hu
        exact hr 0 u0 rfl
      | succ t =>
        simp only [enterTm]
        exact enterTm_rep hl (fun j u' hj => by have := hr (j + 1) u' (by simpa using hj); rw [show k + 1 + j = k + (j + 1) by omega]; exact this) t u (by simpa using hu)
  | some n :: sh, u0 :: us, usF, k, h, hr, t, u, hu => by
    cases u0 with
    | agg cs =>
      simp only [flatU] at h
      split at h
      · rename_i hn
        cases hl : flatU sh us with
        | none => rw [hl] at h; cases h
        | some l =>
          rw [hl] at h
          simp only [Option.map_some, Option.some.injEq] at h
          subst h
          cases t with
          | zero =>
            simp at hu
            subst hu
            simp only [enterTm]
            unfold AVrep
            refine ⟨cs.toList, by simp, ?_⟩
            rw [AVreps_iff]
            refine ⟨by simp [hn], fun j v x hj hx => ?_⟩
            rw [List.getElem?_map] at hj
            have hxl := (List.getElem?_eq_some_iff.1 hx).1
            rw [List.getElem?_range (by simpa [hn] using hxl)] at hj
            simp at hj
            subst hj
            refine hr j x ?_
            rw [List.getElem?_append_left hxl]
            exact hx
          | succ t =>
            simp only [enterTm]
            refine enterTm_rep hl (fun j u' hj => ?_) t u (by simpa using hu)
            have := hr (n + j) u' (by
              rw [List.getElem?_append_right (by simp [hn])]
              simpa [hn] using hj)
            rw [show k + n + j = k + (n + j) by omega]
            exact this
      · cases h
    | _ => simp [flatU] at h

theorem enterTm_bad (as : List Arg) : ∀ {sh : Shape} {k t : Nat}, sh.length ≤ t → enterTm as sh k t = .bad
  | [], _, _, _ => rfl
  | none :: sh, k, 0, h => by simp at h
  | some _ :: sh, k, 0, h => by simp at h
  | none :: sh, k, t + 1, h => by
    simp only [enterTm]
    exact enterTm_bad as (by simpa using h)
  | some n :: sh, k, t + 1, h => by
    simp only [enterTm]
    exact enterTm_bad as (by simpa using h)

theorem enter_relS {sh : Shape} {as : List Arg} {us usF : List Value} {ab : List (Nat × Nat)} (hS : ∀ b, S b → b < w.heap.size) (hfl : flatU sh us = some usF) (h : ArgsRep w S as usF ab) (hn : (ab.map (·.1)).Nodup) (hlt : ∀ b ∈ ab.map (·.1), b < w.heap.size) (hN : sh.length ≤ N) :
    ∃ g, homes g 0 as = ab ∧ Rel w S (ab.map (·.1)) g N (St.enterS sh as) { tmps := us.toArray ++ Array.replicate (N - us.toArray.size) undef, defers := [] } w := by
  obtain ⟨g, hg, m, cap, S', hr, hH⟩ := enter_rel (N := as.length) hS h hn hlt (Nat.le_refl _)
  obtain ⟨_, g1, _, _⟩ := argsRep_at h
  have hul := flatU_len hfl
  have key := enterTm_rep (w := w) (S := S') (m := m) (cap := cap) (ob := (St.enter as).ob) (as := as) (k := 0) hfl (fun j u hj => by
    have hjl := (List.getElem?_eq_some_iff.1 hj).1
    have := hr.tm j (by omega)
    have hget : (usF.toArray ++ Array.replicate (as.length - usF.toArray.size) undef).getD j undef = u := by
      rw [Array.getD_eq_getD_getElem?, Array.getElem?_append_left (by simpa using hjl)]
      simp [hj]
    rw [hget] at this
    rw [Nat.zero_add]
    exact this)
  refine ⟨g, hg, m, cap, S', ⟨by simp; omega, rfl, hr.after, hr.stab, hr.base, hr.fresh, hr.obs, hr.mine, hr.inj, fun t ht => ?_, fun t ht => ?_⟩, hH⟩
  · show AVrep w S' m cap (St.enter as).ob (enterTm as sh 0 t) _
    by_cases htu : t < us.length
    · have hget : (us.toArray ++ Array.replicate (N - us.toArray.size) undef).getD t undef = us[t] := by
        rw [Array.getD_eq_getD_getElem?, Array.getElem?_append_left (by simpa using htu)]
        simp [htu]
      rw [hget]
      exact key t _ (List.getElem?_eq_getElem htu)
    · rw [enterTm_bad as (by omega)]
      unfold AVrep; trivial
  · show enterTm as sh 0 t = .bad
    exact enterTm_bad as (by omega)

/-- A contract of a function that is handed structs of rows. -/
theorem callsFS_of_wp2 {f : FuncId} {fn : Func} {c : Code} {k : Code1} (lo : Nat → List Nat) (hm : P.follows .mixedOrders = true) (hf : P.funcs[f]? = some fn) (hb : fn.body = some c) (hname : (fn.name == "runtime.NumGoroutine") = false) (hok : (decide (fn.ntmps ≤ base) && okCode fn.ntmps lo c) = true) (hc : comp lo c = some k) {rs : List ResultVar} (hrs : fn.results.toList = rs)
    {sh : Shape} {as : List Arg} {res : RV} {outs : List (Option Arg)} (hlen : sh.length ≤ fn.ntmps) (hlike : Arg.like as outs) (hwp : wp2 P k (Fin (Back P rs as res outs)) (St.enterS sh as)) : CallsFS P f sh as res outs := by
  subst hrs
  simp only [Bool.and_eq_true, decide_eq_true_eq] at hok
  refine ⟨⟨fn, hf, hname, by rw [hb]; rfl⟩, hlike, fun w S us usF ab hS hfl harg hn hlt => ?_⟩
  obtain ⟨g, rfl, hr⟩ := enter_relS hS hfl harg hn hlt hlen
  refine calls_of_wp hf hb (wp_mono (code2_sound hm hok.1 lo c hc hok.2 hr hwp) fun e a' w' he => ?_)
  cases e with
  | normal =>
    obtain ⟨st, h1, h2⟩ := he
    exact back_post h1 h2
  | ret =>
    obtain ⟨st, h1, h2⟩ := he
    exact back_post h1 h2
  | exit i =>
    obtain ⟨st, h1, h2⟩ := he
    exact h2.elim
  | goto l => exact he.elim
  | panic c => exact he.elim
  | outgrown => exact he.elim

end Cal
