/- A calculus of our own, thirty-third part: objects under other names; code with such steps ahead of its regions. No program is named here. -/
import Derived.Test.YthaebckdhcnkfaaCalZf
set_option linter.unusedSimpArgs false
set_option linter.unusedVariables false
namespace Cal
open Go Go.RowKit

/-- Whatever the first state stands for, the second does too. -/
def Weaker (st st' : St) : Prop := ∀ (w0 : World) (S0 : Nat → Prop) (own : List Nat) (H : Nat → Nat × Nat) (N : Nat) (a : Act) (w : World), Rel w0 S0 own H N st a w → Rel w0 S0 own H N st' a w
theorem Weaker.refl (st : St) : Weaker st st := fun _ _ _ _ _ _ _ h => h
theorem Weaker.trans {a b c : St} (h : Weaker a b) (k : Weaker b c) : Weaker a c := fun w0 S0 own H N x w hr => k w0 S0 own H N x w (h w0 S0 own H N x w hr)
theorem Weaker.kill (st : St) (ds : List Nat) : Weaker st (st.kill ds) := fun _ _ _ _ _ _ _ h => h.kill ds

/-! ### other names -/
def renI (d e : Nat) (id : Id) : Id := if id.1 = d then (e, id.2) else id
mutual
def AV.ren (d e : Nat) : AV → AV
  | .row id sz i n => .row (renI d e id) sz i n
  | .ptr id i j => .ptr (renI d e id) i j
  | .agg cs => .agg (AV.rens d e cs)
  | .tup cs => .tup (AV.rens d e cs)
  | v => v
def AV.rens (d e : Nat) : List AV → List AV
  | [] => []
  | v :: vs => v.ren d e :: AV.rens d e vs
end
def Ob.ren (d e : Nat) : Ob → Ob
  | .var cs => .var (AV.rens d e cs)
  | o => o
def St.ren (d e : Nat) (s : St) : St where
  tm := fun t => (s.tm t).ren d e
  ob := fun id => if id.1 = e then (s.ob (d, id.2)).map (Ob.ren d e) else if id.1 = d then none else (s.ob id).map (Ob.ren d e)

theorem rens_length (d e : Nat) : ∀ vs : List AV, (AV.rens d e vs).length = vs.length
  | [] => rfl
  | v :: vs => by simp [AV.rens, rens_length d e vs]

theorem ren_ob {s : St} {d e : Nat} (hf : s.Free (·.1 = e)) (id : Id) (hid : id.1 ≠ e) : (s.ren d e).ob (renI d e id) = (s.ob id).map (Ob.ren d e) := by
  unfold renI
  split
  · rename_i h
    have : id = (d, id.2) := by rw [← h]
    simp only [St.ren, if_true]
    rw [← this]
  · rename_i h
    simp only [St.ren, if_neg hid, if_neg h]

theorem map_ren_row {o : Option Ob} {d e sz : Nat} {es : List (List T)} (h : o.map (Ob.ren d e) = some (.row sz es)) : o = some (.row sz es) := by
  cases o with
  | none => cases h
  | some o => cases o <;> simp [Ob.ren] at h <;> simp [h]
theorem map_ren_frz {o : Option Ob} {d e sz : Nat} {es : List (List T)} (h : o.map (Ob.ren d e) = some (.frz sz es)) : o = some (.frz sz es) := by
  cases o with
  | none => cases h
  | some o => cases o <;> simp [Ob.ren] at h <;> simp [h]
theorem map_ren_var {o : Option Ob} {d e : Nat} {cs : List AV} (h : o.map (Ob.ren d e) = some (.var cs)) : ∃ cs', o = some (.var cs') ∧ cs = AV.rens d e cs' := by
  cases o with
  | none => cases h
  | some o =>
    cases o with
    | var cs' =>
      simp only [Option.map_some, Ob.ren, Option.some.injEq, Ob.var.injEq] at h
      exact ⟨cs', rfl, h.symm⟩
    | row _ _ => cases h
    | frz _ _ => cases h

mutual
theorem ren_rep {w : World} {S : Nat → Prop} {m cap m' cap' : Id → Nat} {s : St} {d e : Nat} (hf : s.Free (·.1 = e)) (hm : ∀ id : Id, id.1 ≠ e → m' (renI d e id) = m id ∧ cap' (renI d e id) = cap id) :
    ∀ (v : AV) (u : Value), v.free (·.1 = e) → AVrep w S m cap s.ob v u → AVrep w S m' cap' (s.ren d e).ob (v.ren d e) u
  | .t x, u, _, h => by
    unfold AV.ren
    unfold AVrep at *
    exact h
  | .row id sz i n, u, hv, h => by
    unfold AV.free at hv
    unfold AV.ren
    unfold AVrep at *
    obtain ⟨A, c, h1, h2, h3, h4, h5, h6⟩ := h
    obtain ⟨e1, e2⟩ := hm id hv
    refine ⟨A, c, h1, h2, h3, h4, fun cs hcs => ?_, fun sz' es hes => ?_⟩
    · rw [ren_ob hf id hv] at hcs
      obtain ⟨cs', k, _⟩ := map_ren_var hcs
      exact h5 cs' k
    · rw [ren_ob hf id hv] at hes
      rw [e1, e2]
      refine h6 sz' es ?_
      rcases hes with hes | hes
      · exact .inl (map_ren_row hes)
      · exact .inr (map_ren_frz hes)
  | .ptr id i j, u, hv, h => by
    unfold AV.free at hv
    unfold AV.ren
    unfold AVrep at *
    obtain ⟨a, h1, h2, h3⟩ := h
    obtain ⟨e1, e2⟩ := hm id hv
    refine ⟨a, h1, fun cs hcs hi => ?_, fun sz es hes hi => ?_⟩
    · rw [ren_ob hf id hv] at hcs
      obtain ⟨cs', k, _⟩ := map_ren_var hcs
      rw [e1]
      exact h2 cs' k hi
    · rw [ren_ob hf id hv] at hes
      rw [e1]
      refine h3 sz es ?_ hi
      rcases hes with hes | hes
      · exact .inl (map_ren_row hes)
      · exact .inr (map_ren_frz hes)
  | .roptr cs, u, _, h => by
    unfold AV.ren
    unfold AVrep at *
    exact h
  | .agg cs, u, hv, h => by
    unfold AV.free at hv
    unfold AV.ren
    unfold AVrep at *
    obtain ⟨us, h1, h2⟩ := h
    exact ⟨us, h1, rens_rep hf hm cs us hv h2⟩
  | .tup cs, u, hv, h => by
    unfold AV.free at hv
    unfold AV.ren
    unfold AVrep at *
    obtain ⟨us, h1, h2⟩ := h
    exact ⟨us, h1, rens_rep hf hm cs us hv h2⟩
  | .bad, u, _, _ => by unfold AV.ren AVrep; trivial
theorem rens_rep {w : World} {S : Nat → Prop} {m cap m' cap' : Id → Nat} {s : St} {d e : Nat} (hf : s.Free (·.1 = e)) (hm : ∀ id : Id, id.1 ≠ e → m' (renI d e id) = m id ∧ cap' (renI d e id) = cap id) :
    ∀ (vs : List AV) (us : List Value), AV.frees (·.1 = e) vs → AVreps w S m cap s.ob vs us → AVreps w S m' cap' (s.ren d e).ob (AV.rens d e vs) us
  | [], us, _, h => by
    unfold AV.rens
    unfold AVreps at *
    exact h
  | v :: vs, us, hv, h => by
    unfold AV.frees at hv
    unfold AV.rens
    unfold AVreps at *
    obtain ⟨u, us', h1, h2, h3⟩ := h
    exact ⟨u, us', h1, ren_rep hf hm v u hv.1 h2, rens_rep hf hm vs us' hv.2 h3⟩
end

def renM (d e : Nat) (m : Id → Nat) : Id → Nat := fun id => if id.1 = e then m (d, id.2) else m id
theorem renM_ren {d e : Nat} {m : Id → Nat} {id : Id} (hid : id.1 ≠ e) : renM d e m (renI d e id) = m id := by
  unfold renM renI
  by_cases h1 : id.1 = d
  · have : id = (d, id.2) := by rw [← h1]
    rw [if_pos h1, if_pos rfl]
    rw [← this]
  · rw [if_neg h1, if_neg hid]

theorem RelAt.ren {w0 w : World} {S0 S : Nat → Prop} {own : List Nat} {N : Nat} {m cap : Id → Nat} {s : St} {a : Act} {d e : Nat} (hde : d ≠ e) (h : RelAt w0 S0 own N m cap S s a w) (hf : s.Free (·.1 = e)) :
    RelAt w0 S0 own N (renM d e m) (renM d e cap) S (s.ren d e) a w := by
  have hm : ∀ id : Id, id.1 ≠ e → renM d e m (renI d e id) = m id ∧ renM d e cap (renI d e id) = cap id := fun id hid => ⟨renM_ren hid, renM_ren hid⟩
  -- an object that lives has a name from before
  have back : ∀ id o, (s.ren d e).ob id = some o → ∃ id0 o0, s.ob id0 = some o0 ∧ id0.1 ≠ e ∧ id = renI d e id0 ∧ o = o0.ren d e := fun id o ho => by
    have hne : ∀ id0 o0, s.ob id0 = some o0 → id0.1 ≠ e := fun id0 o0 h0 h1 => by rw [hf.none id0 h1] at h0; cases h0
    simp only [St.ren] at ho
    split at ho
    · rename_i h1
      cases hob : s.ob (d, id.2) with
      | none => rw [hob] at ho; cases ho
      | some o0 =>
        rw [hob] at ho
        refine ⟨(d, id.2), o0, hob, hde, ?_, by simpa using ho.symm⟩
        unfold renI
        simp only [if_true]
        rw [← h1]
    · rename_i h1
      split at ho
      · cases ho
      · rename_i h2
        cases hob : s.ob id with
        | none => rw [hob] at ho; cases ho
        | some o0 =>
          rw [hob] at ho
          refine ⟨id, o0, hob, h1, ?_, by simpa using ho.symm⟩
          unfold renI
          rw [if_neg h2]
  refine ⟨h.size, h.defers, h.after, h.stab, h.base, h.fresh, fun id o ho => ?_, fun id o ho => ?_, fun id id' h1 h2 he => ?_, fun t ht => ?_, fun t ht => ?_⟩
  · obtain ⟨id0, o0, h0, h1, rfl, rfl⟩ := back id o ho
    have hob := h.obs id0 o0 h0
    obtain ⟨e1, e2⟩ := hm id0 h1
    cases o0 with
    | var cs =>
      obtain ⟨⟨arr, ty, k1, k2⟩, k3⟩ := hob
      refine ⟨⟨arr, ty, ?_, ?_⟩, ?_⟩
      · rw [e1]; exact k1
      · exact rens_rep hf hm cs _ (hf.var id0 cs h0) k2
      · rw [e1]; exact k3
    | row sz es =>
      obtain ⟨k1, k3⟩ := hob
      unfold Ob.ren ObRep
      rw [e1, e2]
      exact ⟨k1, k3⟩
    | frz sz es =>
      obtain ⟨k1, k3⟩ := hob
      unfold Ob.ren ObRep
      rw [e1, e2]
      exact ⟨k1, k3⟩
  · obtain ⟨id0, o0, h0, h1, rfl, rfl⟩ := back id o ho
    rw [(hm id0 h1).1]
    exact h.mine id0 o0 h0
  · obtain ⟨o1, h1⟩ := Option.ne_none_iff_exists'.1 h1
    obtain ⟨o2, h2⟩ := Option.ne_none_iff_exists'.1 h2
    obtain ⟨i1, p1, q1, q2, rfl, _⟩ := back id o1 h1
    obtain ⟨i2, p2, q3, q4, rfl, _⟩ := back id' o2 h2
    rw [(hm i1 q2).1, (hm i2 q4).1] at he
    rw [h.inj i1 i2 (by rw [q1]; simp) (by rw [q3]; simp) he]
  · exact ren_rep hf hm _ _ (hf.tm t) (h.tm t ht)
  · simp only [St.ren, h.far t ht, AV.ren]

/-- An object under another name. -/
theorem Weaker.ren (st : St) (d e : Nat) (hde : d ≠ e) (hd : d < base) (he : e < base) : Weaker st ((st.kill [e]).ren d e) := by
  intro w0 S0 own H N a w ⟨m, cap, S, h, hH⟩
  have hf : (st.kill [e]).Free (·.1 = e) := (St.kill_free st [e]).mono fun id hid => by simp [hid]
  refine ⟨_, _, S, RelAt.ren hde (h.kill [e]) hf, fun k => ?_⟩
  have : base + k ≠ e := by omega
  unfold renM
  rw [if_neg this, if_neg this]
  exact hH k

/-! ### code with such steps -/
def wp2 (P : Program) : Code1 → (Ex → St → Prop) → St → Prop
  | .skip, Q, st => Q .normal st
  | .region mk dr lo ops, Q, st => ∃ st', Weaker st st' ∧ wpM P dr lo ops (st'.kill mk) (Q .normal)
  | .seq a b, Q, st => wp2 P a (thenQ (wp2 P b Q) Q) st
  | .cond c x y, Q, st => andT (boolA (st.ev c)) fun b => onB b (wp2 P x Q st) (wp2 P y Q st)
  | .block id c, Q, st => wp2 P c (inBlk id Q) st
  | .loop c, Q, st => ∃ (I : St → Prop) (μ : St → Nat), I st ∧ ∀ st, I st → wp2 P c (thenQ (fun st' => I st' ∧ μ st' < μ st) Q) st
  | .exit id, Q, st => Q (.exit id) st
  | .ret, Q, st => Q .ret st

section
variable {P : Program} {w0 w : World} {S0 S : Nat → Prop} {own : List Nat} {H : Nat → Nat × Nat} {N : Nat} {m cap : Id → Nat} {st : St} {a : Act}

theorem code2_sound (hm : P.follows .mixedOrders = true) (hN : N ≤ base) (lo : Nat → List Nat) : ∀ (c : Code) {k : Code1} {Q : Ex → St → Prop} {st : St} {a : Act} {w : World}, comp lo c = some k → okCode N lo c = true → Rel w0 S0 own H N st a w → wp2 P k Q st → c.wp P (RQ w0 S0 own H N Q) a w
  | .skip, k, Q, st, a, w, hc, _, hr, h => by unfold comp at hc; cases hc; exact wp_skip ⟨st, hr, h⟩
  | .region id ops dr, k, Q, st, a, w, hc, hok, hr, h => by
    unfold comp at hc
    cases ho : comps ops ops.toList with
    | none => simp [ho] at hc
    | some os1 =>
      simp only [ho, Option.map_some, Option.some.injEq] at hc
      subst hc
      obtain ⟨st', hw, h⟩ := h
      exact region_sound hm hN hok (hw _ _ _ _ _ _ _ hr) (wpM_wpL ho h)
  | .seq x y, k, Q, st, a, w, hc, hok, hr, h => by
    unfold comp at hc
    obtain ⟨k1, k2, hx, hy, rfl⟩ := two_inv hc
    unfold okCode at hok
    simp only [Bool.and_eq_true] at hok
    refine wp_seq (wp_mono (code2_sound hm hN lo x hx hok.1 hr h) fun e a' w' he => ?_)
    cases e with
    | normal =>
      obtain ⟨st', hr', h'⟩ := he
      exact code2_sound hm hN lo y hy hok.2 hr' h'
    | exit id => exact he
    | ret => exact he
    | goto l => exact he.elim
    | panic c => exact he.elim
    | outgrown => exact he.elim
  | .cond c x y, k, Q, st, a, w, hc, hok, hr, h => by
    unfold comp at hc
    obtain ⟨k1, k2, hx, hy, rfl⟩ := two_inv hc
    unfold okCode at hok
    simp only [Bool.and_eq_true] at hok
    obtain ⟨b, hb, h⟩ := h
    have hev : a.eval c = .bool b := by
      obtain ⟨m, cap, S, hr, _⟩ := hr
      have := hr.ev c
      unfold boolA at hb
      split at hb
      · rename_i b' hb'
        cases hb
        rw [hb'] at this
        exact (AVrep_v_inv this).1
      · cases hb
    refine wp_cond hev ?_
    cases b with
    | true => exact code2_sound hm hN lo x hx hok.1 hr h
    | false => exact code2_sound hm hN lo y hy hok.2 hr h
  | .block id c, k, Q, st, a, w, hc, hok, hr, h => by
    unfold comp at hc
    cases ho : comp lo c with
    | none => simp [ho] at hc
    | some k1 =>
      simp only [ho, Option.map_some, Option.some.injEq] at hc
      subst hc
      unfold okCode at hok
      refine wp_block (wp_mono (code2_sound hm hN lo c ho hok hr h) fun e a' w' he => ?_)
      cases e with
      | normal => exact he
      | exit i =>
        obtain ⟨st', hr', h'⟩ := he
        unfold Exit.inBlock
        simp only [inBlk] at h'
        dsimp only
        split
        · rename_i hi; rw [if_pos hi] at h'; exact ⟨st', hr', h'⟩
        · rename_i hi; rw [if_neg hi] at h'; exact ⟨st', hr', h'⟩
      | ret => exact he
      | goto l => exact he.elim
      | panic c => exact he.elim
      | outgrown => exact he.elim
  | .loop c, k, Q, st, a, w, hc, hok, hr, h => by
    unfold comp at hc
    cases ho : comp lo c with
    | none => simp [ho] at hc
    | some k1 =>
      simp only [ho, Option.map_some, Option.some.injEq] at hc
      subst hc
      unfold okCode at hok
      obtain ⟨I, μ, h0, h1⟩ := h
      let J : Act → World → Nat → Prop := fun a w n => ∃ st, Rel w0 S0 own H N st a w ∧ I st ∧ μ st = n
      classical
      have least : ∀ a w, (∃ n, J a w n) → ∃ n, J a w n ∧ ∀ k, J a w k → n ≤ k := fun a w ⟨n, hn⟩ => by
        induction n using Nat.strongRecOn with
        | _ n ih =>
          by_cases hlt : ∃ k, k < n ∧ J a w k
          · obtain ⟨k, hk1, hk2⟩ := hlt
            exact ih k hk1 hk2
          · exact ⟨n, hn, fun k hk => Nat.le_of_not_lt fun hlt' => hlt ⟨k, hlt', hk⟩⟩
      let μ' : Act → World → Nat := fun a w => if hex : ∃ n, J a w n then (least a w hex).choose else 0
      refine wp_loop (fun a w => ∃ n, J a w n) μ' ⟨μ st, st, hr, h0, rfl⟩ fun a w hex => ?_
      have hμ : μ' a w = (least a w hex).choose := by simp only [μ', dif_pos hex]
      obtain ⟨⟨st1, hr1, hI1, hm1⟩, _⟩ := (least a w hex).choose_spec
      refine wp_mono (code2_sound hm hN lo c ho hok hr1 (h1 st1 hI1)) fun e a' w' he => ?_
      cases e with
      | normal =>
        obtain ⟨st', hr', hI', hlt⟩ := he
        have hex' : ∃ n, J a' w' n := ⟨μ st', st', hr', hI', rfl⟩
        refine ⟨hex', ?_⟩
        have hle := (least a' w' hex').choose_spec.2 (μ st') ⟨st', hr', hI', rfl⟩
        have hμ' : μ' a' w' = (least a' w' hex').choose := by simp only [μ', dif_pos hex']
        omega
      | exit id => exact he
      | ret => exact he
      | goto l => exact he.elim
      | panic c => exact he.elim
      | outgrown => exact he.elim
  | .exit id, k, Q, st, a, w, hc, _, hr, h => by unfold comp at hc; cases hc; exact wp_exit ⟨st, hr, h⟩
  | .ret, k, Q, st, a, w, hc, _, hr, h => by unfold comp at hc; cases hc; exact wp_ret ⟨st, hr, h⟩
  | .scope c, _, _, _, _, _, hc, _, _, _ => by unfold comp at hc; cases hc
  | .rangeFunc .., _, _, _, _, _, hc, _, _, _ => by unfold comp at hc; cases hc
  | .label _, _, _, _, _, _, hc, _, _, _ => by unfold comp at hc; cases hc
  | .goto _, _, _, _, _, _, hc, _, _, _ => by unfold comp at hc; cases hc
  | .refuse _, _, _, _, _, _, hc, _, _, _ => by unfold comp at hc; cases hc
end

/-- A contract, by the calculus, with steps that give objects other names. -/
theorem callsF_of_wp2 {P : Program} {f : FuncId} {fn : Func} {c : Code} {k : Code1} (lo : Nat → List Nat) (hm : P.follows .mixedOrders = true) (hf : P.funcs[f]? = some fn) (hb : fn.body = some c) (hname : (fn.name == "runtime.NumGoroutine") = false) (hok : (decide (fn.ntmps ≤ base) && okCode fn.ntmps lo c) = true) (hc : comp lo c = some k) {rs : List ResultVar} (hrs : fn.results.toList = rs)
    {as : List Arg} {res : RV} {outs : List (Option Arg)} (hlen : as.length ≤ fn.ntmps) (hlike : Arg.like as outs) (hwp : wp2 P k (Fin (Back P rs as res outs)) (St.enter as)) : CallsF P f as res outs := by
  subst hrs
  simp only [Bool.and_eq_true, decide_eq_true_eq] at hok
  refine ⟨⟨fn, hf, hname, by rw [hb]; rfl⟩, hlike, fun w S us usF ab hS hfl harg hn hlt => ?_⟩
  obtain rfl := flatU_nones _ _ _ hfl
  obtain ⟨g, rfl, hr⟩ := enter_rel hS harg hn hlt hlen
  refine calls_of_wp hf hb (wp_mono (code2_sound hm hok.1 lo c hc hok.2 hr hwp) fun e a' w' he => ?_)
  cases e with
  | normal =>
    obtain ⟨st, h1, h2⟩ := he
    exact back_post h1 h2
  | ret =>
    obtain ⟨st, h1, h2⟩ := he
    exact back_post h1 h2
  | exit i =>
    obtain ⟨st, h1, h2⟩ := he
    exact h2.elim
  | goto l => exact he.elim
  | panic c => exact he.elim
  | outgrown => exact he.elim

/-! ### rules -/
section
variable {P : Program} {Q : Ex → St → Prop} {st : St}
theorem wp2_mono : ∀ (c : Code1) {Q Q' : Ex → St → Prop} {st : St}, wp2 P c Q st → (∀ e s, Q e s → Q' e s) → wp2 P c Q' st
  | .skip, _, _, _, h, hq => hq _ _ h
  | .region mk dr lo ops, _, _, _, h, hq => by
    obtain ⟨st', h1, h2⟩ := h
    exact ⟨st', h1, wpM_mono h2 fun s hs => hq _ _ hs⟩
  | .seq a b, _, _, _, h, hq => wp2_mono a h (thenQ_mono (fun s hs => wp2_mono b hs hq) hq)
  | .cond c x y, _, _, _, h, hq => andT_mono h fun b hb => onB_mono hb (fun h1 => wp2_mono x h1 hq) (fun h1 => wp2_mono y h1 hq)
  | .block id c, _, _, _, h, hq => wp2_mono c h (inBlk_mono hq)
  | .loop c, _, _, _, h, hq => by
    obtain ⟨I, μ, h0, h1⟩ := h
    exact ⟨I, μ, h0, fun s hs => wp2_mono c (h1 s hs) (thenQ_mono (fun _ h => h) hq)⟩
  | .exit _, _, _, _, h, hq => hq _ _ h
  | .ret, _, _, _, h, hq => hq _ _ h
theorem wp2_seq {a b : Code1} (h : ∀ K : St → Prop, (∀ s, wp2 P b Q s → K s) → wp2 P a (thenQ K Q) st) : wp2 P (.seq a b) Q st := by
  show wp2 P a (thenQ (wp2 P b Q) Q) st
  exact h _ fun _ h => h
theorem wp2_block {id : Nat} {c : Code1} (h : wp2 P c (inBlk id Q) st) : wp2 P (.block id c) Q st := h
theorem wp2_region {mk : List Nat} {dr : Bool} {lo : List Nat} {ops : List Op1} (h : wpM P dr lo ops (st.kill mk) (Q .normal)) : wp2 P (.region mk dr lo ops) Q st := ⟨st, Weaker.refl _, h⟩
theorem wp2_rename (d e : Nat) (hde : (decide (d ≠ e) && decide (d < base) && decide (e < base)) = true) {mk : List Nat} {dr : Bool} {lo : List Nat} {ops : List Op1} (h : wpM P dr lo ops (((st.kill [e]).ren d e).kill mk) (Q .normal)) : wp2 P (.region mk dr lo ops) Q st := by
  simp only [Bool.and_eq_true, decide_eq_true_eq] at hde
  exact ⟨_, Weaker.ren st d e hde.1.1 hde.1.2 hde.2, h⟩
@[simp] theorem wp2_skip (P : Program) (Q : Ex → St → Prop) (st : St) : wp2 P .skip Q st = Q .normal st := rfl
@[simp] theorem wp2_exit (P : Program) (id : Nat) (Q : Ex → St → Prop) (st : St) : wp2 P (.exit id) Q st = Q (.exit id) st := rfl
@[simp] theorem wp2_ret (P : Program) (Q : Ex → St → Prop) (st : St) : wp2 P .ret Q st = Q .ret st := rfl
theorem wp2_cond {c : Operand} {x y : Code1} (h : ∀ X Y : St → Prop, (∀ s, wp2 P x Q s → X s) → (∀ s, wp2 P y Q s → Y s) → condK (boolA (st.ev c)) X Y st) : wp2 P (.cond c x y) Q st := by
  have := h _ _ (fun _ h => h) (fun _ h => h)
  unfold condK at this
  exact this
theorem wp2_loop {c : Code1} (I : Nat → St → Prop) (n : Nat) (h0 : I n st)
    (h : ∀ n s, I n s → ∀ K : St → Prop, (∀ m s', m < n → I m s' → K s') → wp2 P c (thenQ K Q) s) : wp2 P (.loop c) Q st := by
  classical
  have least : ∀ s, (∃ n, I n s) → ∃ n, I n s ∧ ∀ k, I k s → n ≤ k := fun s ⟨n, hn⟩ => by
    induction n using Nat.strongRecOn with
    | _ n ih =>
      by_cases hlt : ∃ k, k < n ∧ I k s
      · obtain ⟨k, hk1, hk2⟩ := hlt
        exact ih k hk1 hk2
      · exact ⟨n, hn, fun k hk => Nat.le_of_not_lt fun hlt' => hlt ⟨k, hlt', hk⟩⟩
  let μ : St → Nat := fun s => if hex : ∃ n, I n s then (least s hex).choose else 0
  refine ⟨fun s => ∃ n, I n s, μ, ⟨n, h0⟩, fun s hex => ?_⟩
  have hs := (least s hex).choose_spec
  refine h _ s hs.1 _ fun m s' hm hI => ?_
  have hex' : ∃ n, I n s' := ⟨m, hI⟩
  have h1 : μ s' = (least s' hex').choose := by simp only [μ, dif_pos hex']
  have h2 : μ s = (least s hex).choose := by simp only [μ, dif_pos hex]
  have h3 := (least s' hex').choose_spec.2 m hI
  exact ⟨⟨m, hI⟩, by omega⟩
end
@[simp] theorem tm_ren (s : St) (d e t : Nat) : (s.ren d e).tm t = (s.tm t).ren d e := rfl
@[simp] theorem ob_ren (s : St) (d e a b : Nat) : (s.ren d e).ob (a, b) = if a = e then (s.ob (d, b)).map (Ob.ren d e) else if a = d then none else (s.ob (a, b)).map (Ob.ren d e) := rfl
@[simp] theorem ren_t (d e : Nat) (x : T) : (AV.t x).ren d e = .t x := rfl
@[simp] theorem ren_row (d e a b sz i n : Nat) : (AV.row (a, b) sz i n).ren d e = .row (if a = d then (e, b) else (a, b)) sz i n := rfl
@[simp] theorem ren_ptr (d e a b i n : Nat) : (AV.ptr (a, b) i n).ren d e = .ptr (if a = d then (e, b) else (a, b)) i n := rfl
@[simp] theorem ren_roptr (d e : Nat) (cs : List T) : (AV.roptr cs).ren d e = .roptr cs := rfl
@[simp] theorem ren_bad (d e : Nat) : AV.bad.ren d e = .bad := rfl
@[simp] theorem ren_agg (d e : Nat) (cs : List AV) : (AV.agg cs).ren d e = .agg (AV.rens d e cs) := rfl
@[simp] theorem ren_tup (d e : Nat) (cs : List AV) : (AV.tup cs).ren d e = .tup (AV.rens d e cs) := rfl
@[simp] theorem rens_nil (d e : Nat) : AV.rens d e [] = [] := rfl
@[simp] theorem rens_cons (d e : Nat) (v : AV) (vs : List AV) : AV.rens d e (v :: vs) = v.ren d e :: AV.rens d e vs := rfl
@[simp] theorem obren_var (d e : Nat) (cs : List AV) : (Ob.var cs).ren d e = .var (AV.rens d e cs) := rfl
@[simp] theorem obren_row (d e sz : Nat) (es : List (List T)) : (Ob.row sz es).ren d e = .row sz es := rfl
@[simp] theorem obren_frz (d e sz : Nat) (es : List (List T)) : (Ob.frz sz es).ren d e = .frz sz es := rfl

attribute [irreducible] wp2

end Cal
