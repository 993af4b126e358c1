/- A calculus of our own, twenty-eighth part: regions, in the text's order and in a drawn order. No program is named here. -/
import Derived.Test.YthaebckdhcnkfaaCalZb
set_option linter.unusedSimpArgs false
set_option linter.unusedVariables false
namespace Cal
open Go Go.RowKit

variable {H : Nat → Nat × Nat} {P : Program} {w0 w : World} {S0 S S2 : Nat → Prop} {own : List Nat} {N : Nat} {m cap : Id → Nat} {st st2 : St} {a : Act} {d : Nat} {rg : Rg} {o : Oper} {v : AV} {f : Eff} {p : Id → Prop}

/-- The model does what an operation gives. -/
theorem out_wp (hN : N ≤ base) (hok : okOper N o = true) (h : RelAt w0 S0 own N m cap S st a w) (hH : ∀ k, m (base + k, 0) = (H k).1 ∧ cap (base + k, 0) = (H k).2) (hf : mkO o.op = true → ∀ t, o.dst = some t → st.Free (·.1 = t)) (ho : OutOp P rg o st v f) {next : Act → World → Prop} {Q : Exit → Act → World → Prop}
    (hk : ∀ a' w', Rel w0 S0 own H N ((st.eff f).put o.dst v) a' w' → next a' w') : o.wp P a w next Q := by
  rcases call_or o with ⟨g, args, ats, hop⟩ | hne
  · obtain ⟨sh, vsF, as, res, outs, keep, h0, h1, h2, h3, h4, h5, rfl, rfl⟩ := (OutOp_call hop).1 ho
    exact call_wp hop h hH hN (fun t ht => okOper_lt hok ht) (hf (by rw [hop]; rfl)) h0 h1 h2 h3 h4 hk
  · obtain ⟨h1, h2⟩ := muted_inv ((OutOp_other hne).1 ho)
    obtain ⟨u, w', m', cap', S', g1, g2, g3, g4⟩ := gives_op (o := o) h (d := o.dst.getD 0) (fun hm => hf (mkr_mkO hm) _ (okOper_mkr hok hm)) h1
    have hH' : ∀ k, m' (base + k, 0) = (H k).1 ∧ cap' (base + k, 0) = (H k).2 := fun k => by
      have hne : o.dst.getD 0 < base := by
        cases hd : o.dst with
        | none => unfold base; simp
        | some t => exact Nat.lt_of_lt_of_le (okOper_lt hok hd) hN
      obtain ⟨e1, e2⟩ := g4 (base + k, 0) (Nat.ne_of_gt (Nat.lt_of_lt_of_le hne (Nat.le_add_right base k)))
      rw [e1, e2]
      exact hH k
    unfold Oper.wp
    rcases g1 with g1 | ⟨g1, rfl⟩
    · rw [g1, Oper.upon_value]
      exact hk _ _ ⟨m', cap', S', g2.put (fun t ht => okOper_lt hok ht) g3, hH'⟩
    · rw [g1, Oper.upon_skip]
      exact hk _ _ ⟨m', cap', S', g2.put (fun t ht => okOper_lt hok ht) g3, hH'⟩

theorem guard_rel (h : RelAt w0 S0 own N m cap S st a w) {ops : Array Oper} {b : Bool} (hg : guardA st ops o.guard = some b) : Region.wanted o (yielded ops a.tmps) = b := by
  unfold Region.wanted
  cases hgd : o.guard with
  | none =>
    rw [hgd] at hg
    simp only [guardA, Option.some.injEq] at hg
    exact hg
  | some jw =>
    obtain ⟨j, want⟩ := jw
    rw [hgd] at hg
    simp only [guardA] at hg
    cases hb : (ops[j]?).bind (·.dst) with
    | none => rw [hb] at hg; simp at hg
    | some t =>
      rw [hb] at hg
      simp only [Option.map_some] at hg
      split at hg
      · rename_i c hc
        simp only [Option.some.injEq] at hc hg
        have htN : t < N := by
          rcases Nat.lt_or_ge t N with h1 | h1
          · exact h1
          · rw [h.far t h1] at hc
            cases hc
        have htm := h.tm t htN
        rw [hc] at htm
        obtain ⟨e, _⟩ := AVrep_v_inv htm
        have hsz : t < a.tmps.size := by rw [h.size]; exact htN
        have hget : a.tmps[t]? = some (.bool c) := by
          rw [Array.getD_eq_getD_getElem?] at e
          rw [Array.getElem?_eq_getElem hsz] at e ⊢
          simpa using e
        have hy : yielded ops a.tmps j = some c := by
          unfold yielded
          rw [hb]
          simp only [Option.bind_some, hget]
        simp only [hy]
        rw [← hg]
        cases c <;> cases want <;> rfl
      · rename_i hc
        simp only [Option.some.injEq] at hc hg
        have htN : t < N := by
          rcases Nat.lt_or_ge t N with h1 | h1
          · exact h1
          · rw [h.far t h1] at hc
            cases hc
        have htm := h.tm t htN
        rw [hc] at htm
        unfold AVrep at htm
        obtain ⟨us, e, e2⟩ := htm
        unfold AVreps at e2
        subst e2
        have hsz : t < a.tmps.size := by rw [h.size]; exact htN
        have hget : a.tmps[t]? = some (.tuple #[]) := by
          rw [Array.getD_eq_getD_getElem?] at e
          rw [Array.getElem?_eq_getElem hsz] at e ⊢
          simpa using e
        have hy : yielded ops a.tmps j = none := by
          unfold yielded
          rw [hb]
          simp only [Option.bind_some, hget]
        simp only [hy]
        rw [← hg]
        rfl
      · cases hg

/-- One step of a region. -/
theorem outG_wp {ops : Array Oper} (hops : rg.ops = ops) {i : Nat} (hi : ops[i]? = some o) (hN : N ≤ base) (hok : okOper N o = true) (h : RelAt w0 S0 own N m cap S st a w) (hH : ∀ k, m (base + k, 0) = (H k).1 ∧ cap (base + k, 0) = (H k).2) (hf : mkO o.op = true → ∀ t, o.dst = some t → st.Free (·.1 = t)) (ho : OutG P rg o st v f)
    {K : Act → World → Prop} {Q : Exit → Act → World → Prop} (hk : ∀ a' w', Rel w0 S0 own H N ((st.eff f).put o.dst v) a' w' → K a' w') : Go.wpOp P ops Q i K a w := by
  unfold Go.wpOp
  simp only [hi]
  subst hops
  rcases ho with ⟨hg, ho⟩ | ⟨hg, rfl, rfl⟩
  · rw [guard_rel h hg]
    simp only [if_true]
    exact .inl (out_wp hN hok h hH hf ho hk)
  · rw [guard_rel h hg]
    simp only [Bool.false_eq_true, if_false]
    exact hk _ _ ⟨m, cap, S, h.put (fun t ht => okOper_lt hok ht) (by unfold AVrep; exact ⟨[], rfl, by unfold AVreps; rfl⟩), hH⟩

/-- What is still to be made is free. -/
def Fresh (l : List Oper) (st : St) : Prop := (∀ o ∈ l, mkO o.op = true → ∀ t, o.dst = some t → st.Free (·.1 = t)) ∧ (makes l).Nodup

theorem mem_makes {t : Nat} : ∀ {l : List Oper}, t ∈ makes l ↔ ∃ o ∈ l, mkO o.op = true ∧ o.dst = some t
  | [] => by simp [makes]
  | o :: l => by
    rw [makes_cons, List.mem_append, mem_makes (l := l)]
    simp only [List.mem_cons, exists_eq_or_imp]
    constructor
    · rintro (h | h)
      · left
        split at h
        · rename_i hm
          exact ⟨hm, by simpa using h⟩
        · simp at h
      · exact .inr h
    · rintro (⟨h1, h2⟩ | h)
      · left
        rw [if_pos h1, h2]
        simp
      · exact .inr h

theorem Fresh.tail {l : List Oper} (h : Fresh (o :: l) st) : Fresh l st := by
  refine ⟨fun o' ho' => h.1 o' (by simp [ho']), ?_⟩
  have := h.2
  rw [makes_cons] at this
  exact (List.nodup_append.1 this).2.1

theorem Fresh.step {l : List Oper} (h : Fresh (o :: l) st) (hok : okOper N o = true) (ho : OutG P rg o st v f) : Fresh l ((st.eff f).put o.dst v) := by
  refine ⟨fun o' ho' hm t ht => ?_, h.tail.2⟩
  refine outG_Free hok (fun hm' e => ?_) (h.1 o' (by simp [ho']) hm t ht) ho
  have := h.2
  rw [makes_cons] at this
  exact (List.nodup_append.1 this).2.2 t (by rw [if_pos hm', e]; simp) t (mem_makes.2 ⟨o', ho', hm, ht⟩) rfl

/-- In the text's order. -/
theorem text_sound (hN : N ≤ base) {ops : Array Oper} (hops : rg.ops = ops) {Q : Exit → Act → World → Prop} {K : St → Prop} (hQ : ∀ st a w, Rel w0 S0 own H N st a w → K st → Q .normal a w) :
    ∀ (l : List Nat) (os : List Oper) (st : St) (a : Act) (w : World), l.map (fun i => ops[i]?) = os.map some → (∀ o ∈ os, okOper N o = true) → Rel w0 S0 own H N st a w → Fresh os st → wpL P rg os st K → wpOps P ops Q l a w
  | [], [], st, a, w, _, _, hr, _, h => by
    rw [wpL] at h
    exact hQ st a w hr h
  | [], _ :: _, _, _, _, h, _, _, _, _ => by simp at h
  | _ :: _, [], _, _, _, h, _, _, _, _ => by simp at h
  | i :: l, o :: os, st, a, w, hl, hok, ⟨m, cap, S, hr, hH⟩, hf, h => by
    simp only [List.map_cons, List.cons.injEq] at hl
    obtain ⟨v, f, h1, h2⟩ := wpL_out h
    rw [wpOps_cons]
    exact outG_wp hops hl.1 hN (hok o (by simp)) hr hH (hf.1 o (by simp)) h1 fun a' w' hr' => text_sound hN hops hQ l os _ a' w' hl.2 (fun o' ho' => hok o' (by simp [ho'])) hr' (hf.step (hok o (by simp)) h1) h2

/-! ### swapping neighbours -/
/-- May these two be swapped? -/
def sw (rg : Rg) (x y : Oper) : Bool := x.apart rg.ops y && !(loudW rg x && peeks y.op) && !(peeks x.op && loudW rg y) && !(loudW rg x && loudW rg y)

def effAt (id : Id) : Eff → Option (Option Ob)
  | [] => none
  | (i, o) :: l => match effAt id l with
    | some r => some r
    | none => if id = i then some o else none

theorem eff_effAt (id : Id) : ∀ (f : Eff) (s : St), (s.eff f).ob id = (effAt id f).getD (s.ob id)
  | [], s => rfl
  | (i, o) :: l, s => by
    simp only [St.eff]
    rw [eff_effAt id l]
    simp only [effAt]
    cases effAt id l with
    | some r => rfl
    | none =>
      simp only [Option.getD_none, St.setOb]
      by_cases h : id = i <;> simp [h]
theorem effAt_mem {id : Id} : ∀ {f : Eff} {r : Option Ob}, effAt id f = some r → ∃ e ∈ f, e.1 = id
  | [], r, h => by simp [effAt] at h
  | (i, o) :: l, r, h => by
    unfold effAt at h
    cases hl : effAt id l with
    | some r' =>
      obtain ⟨e, he, h2⟩ := effAt_mem hl
      exact ⟨e, by simp [he], h2⟩
    | none =>
      rw [hl] at h
      dsimp only at h
      split at h
      · rename_i hid
        exact ⟨(i, o), by simp, hid.symm⟩
      · cases h

theorem St.ext' {s s' : St} (h1 : ∀ t, s.tm t = s'.tm t) (h2 : ∀ id, s.ob id = s'.ob id) : s = s' := by
  cases s; cases s'
  congr
  · exact funext h1
  · exact funext h2

theorem tm_put' {s : St} {dst : Option Nat} {t : Nat} : (s.put dst v).tm t = if dst = some t then v else s.tm t := by
  cases dst with
  | none => simp [St.put]
  | some u =>
    simp only [St.put, Option.some.injEq]
    by_cases h : t = u
    · simp [h]
    · rw [if_neg h, if_neg (fun e => h e.symm)]

theorem commute {dx dy : Option Nat} {vx vy : AV} {fx fy : Eff} (hd : ∀ t, dx = some t → dy ≠ some t) (hk : ∀ id, (∃ e ∈ fx, e.1 = id) → (∃ e ∈ fy, e.1 = id) → False) :
    (((st.eff fx).put dx vx).eff fy).put dy vy = (((st.eff fy).put dy vy).eff fx).put dx vx := by
  refine St.ext' (fun t => ?_) (fun id => ?_)
  · rw [tm_put', eff_tm, tm_put', eff_tm, tm_put', eff_tm, tm_put', eff_tm]
    by_cases h1 : dx = some t
    · have := hd t h1
      simp only [if_pos h1, if_neg this]
    · rw [if_neg h1]
      simp [h1]
  · simp only [ob_put]
    rw [eff_effAt, ob_put, eff_effAt, eff_effAt, ob_put, eff_effAt]
    cases hx : effAt id fx with
    | none => simp
    | some r =>
      cases hy : effAt id fy with
      | none => simp
      | some r' => exact (hk id (effAt_mem hx) (effAt_mem hy)).elim

theorem swap {x y : Oper} {vx vy : AV} {fx fy : Eff} (hsw : sw rg x y = true) (hx : okOper N x = true) (hy : okOper N y = true) (fx' : mkO x.op = true → ∀ t, x.dst = some t → st.Free (·.1 = t)) (fy' : mkO y.op = true → ∀ t, y.dst = some t → st.Free (·.1 = t))
    (h1 : OutG P rg x st vx fx) (h2 : OutG P rg y ((st.eff fx).put x.dst vx) vy fy) :
    OutG P rg y st vy fy ∧ OutG P rg x ((st.eff fy).put y.dst vy) vx fx ∧ (((st.eff fx).put x.dst vx).eff fy).put y.dst vy = (((st.eff fy).put y.dst vy).eff fx).put x.dst vx := by
  unfold sw at hsw
  simp only [Bool.and_eq_true, Bool.not_eq_true', Bool.and_eq_false_iff] at hsw
  obtain ⟨⟨⟨hap, c1⟩, c2⟩, c3⟩ := hsw
  obtain ⟨a1, a2, a3⟩ := Oper.apart_spec hap
  have atx := outG_at hx h1
  have free1 : ∀ {z : Oper} {q : Nat → Prop}, (mkO z.op = true → ∀ t, z.dst = some t → st.Free (·.1 = t)) → st.Free (fun id => mkO z.op = true ∧ z.dst = some id.1) := by
    intro z q hz
    by_cases hm : mkO z.op = true
    · cases hd : z.dst with
      | none =>
        have e : (fun id : Id => mkO z.op = true ∧ (none : Option Nat) = some id.1) = fun _ => False := by funext id; simp
        rw [e]
        exact ⟨fun t => AV.free_false _, fun _ cs _ => AV.frees_false cs, fun _ h => h.elim⟩
      | some t => exact (hz hm t hd).mono fun id hid => by have := hid.2; simp at this; exact this.symm
    · have e : (fun id : Id => mkO z.op = true ∧ z.dst = some id.1) = fun _ => False := by funext id; simp [hm]
      rw [e]
      exact ⟨fun t => AV.free_false _, fun _ cs _ => AV.frees_false cs, fun _ h => h.elim⟩
  have frx := free1 (q := fun _ => True) fx'
  have fry := free1 (q := fun _ => True) fy'
  have agree : ∀ {z y : Oper} {vz : AV} {fz : Eff}, okOper N z = true → OutG P rg z st vz fz → loudW rg z = false → Agree (fun id => mkO z.op = true ∧ z.dst = some id.1) st ((st.eff fz).put z.dst vz) := by
    intro z y vz fz hz h hl id hid
    have hat := outG_at hz h
    rw [ob_put, eff_not fun hm => ?_]
    obtain ⟨e, he, rfl⟩ := List.mem_map.1 hm
    rcases hat e he with hh | ⟨hh, _⟩
    · exact hid hh
    · rw [hl] at hh; cases hh
  have hy2 : OutG P rg y st vy fy := by
    refine (outG_congr (p := fun id => mkO x.op = true ∧ x.dst = some id.1) (st := st) (st2 := (st.eff fx).put x.dst vx) (fun t ht => ?_) (fun hpk => ?_)).2 h2
    · rw [tm_put', eff_tm, if_neg fun e => a1 t e ht]
    · have hl : loudW rg x = false := by rcases c1 with c1 | c1; exact c1; rw [hpk] at c1; cases c1
      exact ⟨agree (y := y) hx h1 hl, frx⟩
  have aty := outG_at hy hy2
  refine ⟨hy2, ?_, commute a2 fun id ⟨e1, he1, i1⟩ ⟨e2, he2, i2⟩ => ?_⟩
  · refine (outG_congr (p := fun id => mkO y.op = true ∧ y.dst = some id.1) (st := st) (st2 := (st.eff fy).put y.dst vy) (fun t ht => ?_) (fun hpk => ?_)).1 h1
    · rw [tm_put', eff_tm, if_neg fun e => a3 t e ht]
    · have hl : loudW rg y = false := by rcases c2 with c2 | c2; rw [hpk] at c2; cases c2; exact c2
      exact ⟨agree (y := x) hy hy2 hl, fry⟩
  · have k1 := atx e1 he1
    have k2 := aty e2 he2
    rw [i1] at k1
    rw [i2] at k2
    rcases k1 with k1 | ⟨k1, k1'⟩ <;> rcases k2 with k2 | ⟨k2, k2'⟩
    · exact a2 id.1 k1.2 k2.2
    · exact k2' (frx.none id k1)
    · exact k1' (fry.none id k2)
    · rcases c3 with c3 | c3
      · rw [k1] at c3; cases c3
      · rw [k2] at c3; cases c3

/-- An operation is moved to the front. -/
theorem front {K : St → Prop} {y : Oper} {post : List Oper} : ∀ (pre : List Oper) (st : St), (∀ x ∈ pre, sw rg x y = true) → (∀ x ∈ pre ++ y :: post, okOper N x = true) → Fresh (pre ++ y :: post) st → wpL P rg (pre ++ y :: post) st K → wpL P rg (y :: (pre ++ post)) st K
  | [], st, _, _, _, h => h
  | x :: pre, st, hs, hok, hf, h => by
    obtain ⟨vx, fx, h1, h2⟩ := wpL_out h
    have hxok := hok x (by simp)
    have ih := front pre _ (fun z hz => hs z (by simp [hz])) (fun z hz => hok z (by simp only [List.cons_append, List.mem_cons]; exact .inr hz)) (hf.step hxok h1) h2
    obtain ⟨vy, fy, h3, h4⟩ := wpL_out ih
    obtain ⟨g1, g2, g3⟩ := swap (hs x (by simp)) hxok (hok y (by simp)) (hf.1 x (by simp)) (hf.1 y (by simp)) h1 h3
    rw [g3] at h4
    exact out_wpL g1 (out_wpL g2 h4)

theorem makes_append (l l' : List Oper) : makes (l ++ l') = makes l ++ makes l' := by
  induction l with
  | nil => rfl
  | cons o l ih => rw [List.cons_append, makes_cons, makes_cons, ih, List.append_assoc]

theorem Fresh.front {y : Oper} {pre post : List Oper} (h : Fresh (pre ++ y :: post) st) : Fresh (y :: (pre ++ post)) st := by
  refine ⟨fun o ho => h.1 o ?_, ?_⟩
  · simp only [List.mem_cons, List.mem_append] at ho ⊢
    rcases ho with ho | ho | ho
    · exact .inr (.inl ho)
    · exact .inl ho
    · exact .inr (.inr ho)
  · have := h.2
    rw [makes_append, makes_cons] at this
    rw [makes_cons, makes_append]
    exact (List.perm_append_comm_assoc _ _ _).nodup_iff.1 this

/-! ### drawn orders -/
/-- j comes before i in every order. -/
inductive Before (ops : Array Oper) : Nat → Nat → Prop
  | one {i : Nat} {o : Oper} {e : Edge} (hi : ops[i]? = some o) (he : e ∈ o.after) (hb : Region.binds .any e = true) : Before ops e.on i
  | more {i j : Nat} {o : Oper} {e : Edge} (hi : ops[i]? = some o) (he : e ∈ o.after) (hb : Region.binds .any e = true) (h : Before ops j e.on) : Before ops j i

/-- A list of indices that is closed under what binds. -/
theorem Before.listed {ops : Array Oper} {p : Nat → Prop} (hp : ∀ i o, ops[i]? = some o → p i → ∀ e ∈ o.after, Region.binds .any e = true → p e.on) {i j : Nat} (h : Before ops j i) :
    (∀ o, ops[i]? = some o → ∀ e ∈ o.after, Region.binds .any e = true → p e.on) → p j := by
  induction h with
  | one hi he hb => exact fun h => h _ hi _ he hb
  | more hi he hb _ ih => exact fun h => ih fun o ho => hp _ o ho (h _ hi _ he hb)

theorem mem_ins {x y : Nat} {l : List Nat} (h : x ∈ (if l.contains y then l else y :: l)) : x = y ∨ x ∈ l := by
  split at h
  · exact .inr h
  · simpa using h

def insA (l : List Nat) (y : Nat) : List Nat := if l.contains y then l else y :: l
theorem mem_foldl_ins {x : Nat} : ∀ {ys l : List Nat}, x ∈ ys.foldl insA l → x ∈ ys ∨ x ∈ l
  | [], l, h => .inr h
  | y :: ys, l, h => by
    rcases mem_foldl_ins (ys := ys) h with h | h
    · exact .inl (by simp [h])
    · rcases mem_ins h with h | h
      · exact .inl (by simp [h])
      · exact .inr h

/-- What comes before an operation, by what comes before those that it waits for. -/
def befOf (acc : List (List Nat)) (o : Oper) : List Nat := ((o.after.toList.filter (Region.binds .any)).flatMap fun e => e.on :: acc.getD e.on []).foldl insA []

def befs (acc : List (List Nat)) : List Oper → List (List Nat)
  | [] => acc
  | o :: l => befs (acc ++ [befOf acc o]) l

theorem befs_ok {ops : Array Oper} : ∀ {l : List Oper} {acc : List (List Nat)}, (∀ k o, l[k]? = some o → ops[acc.length + k]? = some o) → (∀ i, ∀ j ∈ acc.getD i [], Before ops j i) → ∀ i, ∀ j ∈ (befs acc l).getD i [], Before ops j i
  | [], acc, _, h => h
  | o :: l, acc, hl, h => by
    unfold befs
    refine befs_ok (fun k o' hk => ?_) (fun i j hj => ?_)
    · have := hl (k + 1) o' (by simpa using hk)
      simpa [Nat.add_assoc, Nat.add_comm 1 k] using this
    · rcases Nat.lt_trichotomy i acc.length with hi | hi | hi
      · refine h i j ?_
        simpa [List.getD_eq_getElem?_getD, List.getElem?_append_left hi] using hj
      · subst hi
        have hj' : j ∈ befOf acc o := by simpa [List.getD_eq_getElem?_getD] using hj
        have ho := hl 0 o rfl
        simp only [Nat.add_zero] at ho
        unfold befOf at hj'
        rcases mem_foldl_ins hj' with hj' | hj'
        · obtain ⟨e, he, hje⟩ := List.mem_flatMap.1 hj'
          obtain ⟨he1, he2⟩ := List.mem_filter.1 he
          have he1' : e ∈ o.after := by simpa using he1
          rcases List.mem_cons.1 hje with rfl | hje
          · exact .one ho he1' he2
          · exact .more ho he1' he2 (h _ _ hje)
        · simp at hj'
      · have : (acc ++ [befOf acc o])[i]? = none := List.getElem?_eq_none (by simp; omega)
        simp [List.getD_eq_getElem?_getD, this] at hj

def opAt (ops : Array Oper) (i : Nat) : Oper := ops.getD i default

/-- What is asked of a region whose order is drawn. -/
def okDrawn (rg : Rg) : Bool :=
  let bs := befs [] rg.ops.toList
  (List.range rg.ops.size).all fun i => (opAt rg.ops i).after.toList.all (fun e => !(Region.binds .any e) || decide (e.on < i)) && (List.range i).all fun j => sw rg (opAt rg.ops j) (opAt rg.ops i) || (bs.getD i []).contains j

theorem opAt_some {ops : Array Oper} {i : Nat} (h : i < ops.size) : ops[i]? = some (opAt ops i) := by
  unfold opAt
  rw [Array.getElem?_eq_getElem h]
  simp [h]

theorem okDrawn_inv {rg : Rg} (h : okDrawn rg = true) {i : Nat} (hi : i < rg.ops.size) : (∀ e ∈ (opAt rg.ops i).after, Region.binds .any e = true → e.on < i) ∧ ∀ j < i, sw rg (opAt rg.ops j) (opAt rg.ops i) = true ∨ Before rg.ops j i := by
  unfold okDrawn at h
  simp only [List.all_eq_true, List.mem_range, Bool.and_eq_true, Bool.or_eq_true, Bool.not_eq_true', decide_eq_true_eq] at h
  obtain ⟨h1, h2⟩ := h i hi
  refine ⟨fun e he hb => ?_, fun j hj => ?_⟩
  · rcases h1 e (by simpa using he) with h1 | h1
    · rw [hb] at h1; cases h1
    · exact h1
  · rcases h2 j hj with h2 | h2
    · exact .inl h2
    · right
      exact befs_ok (ops := rg.ops) (l := rg.ops.toList) (acc := []) (fun k o hk => by simpa using hk) (fun i j hj => by simp at hj) i j (by simpa using h2)

theorem drawn_sound (hN : N ≤ base) (hd : okDrawn rg = true) {Q : Exit → Act → World → Prop} {K : St → Prop} (hQ : ∀ st a w, Rel w0 S0 own H N st a w → K st → Q .normal a w) (hok : ∀ i < rg.ops.size, okOper N (opAt rg.ops i) = true) :
    ∀ (n : Nat) (l : List Nat) (listed : Array Bool) (st : St) (a : Act) (w : World), l.length = n → l.Pairwise (· < ·) → (∀ i ∈ l, i < rg.ops.size) → listed.size = rg.ops.size → (∀ i < rg.ops.size, listed.getD i true = false ↔ i ∈ l) →
      (∀ i < rg.ops.size, i ∉ l → ∀ e ∈ (opAt rg.ops i).after, Region.binds .any e = true → e.on ∉ l) → Rel w0 S0 own H N st a w → Fresh (l.map (opAt rg.ops)) st → wpL P rg (l.map (opAt rg.ops)) st K → wpAny P .any rg.ops Q n listed a w := by
  intro n
  induction n with
  | zero =>
    intro l listed st a w hl hs hlt hsz hli hcl hr hf h
    have hnil : l = [] := List.length_eq_zero_iff.1 hl
    subst hnil
    refine ⟨?_, ?_⟩
    · rw [List.eq_nil_iff_forall_not_mem]
      intro i hi
      obtain ⟨h0, o, ho, _⟩ := mem_ready.1 hi
      have hlt' := (Array.getElem?_eq_some_iff.1 ho).1
      exact absurd ((hli i hlt').1 h0) (by simp)
    · simp only [List.map_nil] at h
      rw [wpL] at h
      exact hQ st a w hr h
  | succ n ih =>
    intro l listed st a w hl hs hlt hsz hli hcl hr hf h
    have hlisted : ∀ j < rg.ops.size, listed.getD j false = true ↔ j ∉ l := fun j hj => by
      have h1 := hli j hj
      have hj' : j < listed.size := by omega
      simp only [Array.getD_eq_getD_getElem?, Array.getElem?_eq_getElem hj', Option.getD_some] at h1 ⊢
      rw [← h1]
      cases listed[j] <;> simp
    refine ⟨fun hnil => ?_, fun i hi => ?_⟩
    · exfalso
      cases l with
      | nil => simp at hl
      | cons i l =>
        have hi := hlt i (by simp)
        have : i ∈ Region.ready .any rg.ops listed := by
          refine mem_ready.2 ⟨(hli i hi).2 (by simp), opAt rg.ops i, opAt_some hi, fun e he hb => ?_⟩
          have hlt2 := (okDrawn_inv hd hi).1 e he hb
          refine (hlisted e.on (by omega)).2 fun hm => ?_
          rcases List.mem_cons.1 hm with hm | hm
          · omega
          · have := (List.pairwise_cons.1 hs).1 _ hm
            omega
        rw [hnil] at this
        cases this
    · obtain ⟨h0, o, ho, hall⟩ := mem_ready.1 hi
      have hisz := (Array.getElem?_eq_some_iff.1 ho).1
      have ho' : o = opAt rg.ops i := by have := opAt_some hisz; rw [ho] at this; exact Option.some.inj this
      subst ho'
      have hil : i ∈ l := (hli i hisz).1 h0
      obtain ⟨pre, post, rfl⟩ := List.append_of_mem hil
      have hpre : ∀ j ∈ pre, j < i := fun j hj => (List.pairwise_append.1 hs).2.2 j hj i (by simp)
      have hpost : ∀ j ∈ post, i < j := fun j hj => (List.pairwise_cons.1 (List.pairwise_append.1 hs).2.1).1 j hj
      have hready : ∀ o, rg.ops[i]? = some o → ∀ e ∈ o.after, Region.binds .any e = true → e.on < rg.ops.size ∧ e.on ∉ pre ++ i :: post := fun o hoi e he hb => by
        rw [ho] at hoi
        cases hoi
        have hlt2 := (okDrawn_inv hd hisz).1 e he hb
        exact ⟨by omega, (hlisted e.on (by omega)).1 (hall e he hb)⟩
      have hsw : ∀ x ∈ pre.map (opAt rg.ops), sw rg x (opAt rg.ops i) = true := fun x hx => by
        obtain ⟨j, hj, rfl⟩ := List.mem_map.1 hx
        rcases (okDrawn_inv hd hisz).2 j (hpre j hj) with hh | hh
        · exact hh
        · exfalso
          have := hh.listed (p := fun k => k < rg.ops.size ∧ k ∉ pre ++ i :: post) (fun k o hk hp e he hb => by
            have hk' : o = opAt rg.ops k := by have := opAt_some hp.1; rw [hk] at this; exact Option.some.inj this
            subst hk'
            have hlt2 := (okDrawn_inv hd hp.1).1 e he hb
            exact ⟨by omega, hcl k hp.1 hp.2 e he hb⟩) hready
          exact this.2 (by simp [hj])
      rw [List.map_append, List.map_cons] at h hf
      have h2 := front (N := N) (pre.map (opAt rg.ops)) st hsw (fun x hx => by
        rw [← List.map_cons, ← List.map_append] at hx
        obtain ⟨j, hj, rfl⟩ := List.mem_map.1 hx
        exact hok j (hlt j hj)) hf h
      have hf2 := hf.front
      obtain ⟨v, f, g1, g2⟩ := wpL_out h2
      obtain ⟨m, cap, S, hr, hH⟩ := hr
      refine outG_wp rfl ho hN (hok i hisz) hr hH (hf2.1 _ (by simp)) g1 fun a' w' hr' => ?_
      have hni : ∀ {j}, j ∈ pre ++ post → j ≠ i := fun {j} hj => by
        rcases List.mem_append.1 hj with hj | hj
        · have := hpre j hj; omega
        · have := hpost j hj; omega
      refine ih (pre ++ post) (listed.setIfInBounds i true) _ a' w' (by simp at hl ⊢; omega) ?_ (fun j hj => hlt j (by simp at hj ⊢; rcases hj with hj | hj; exact .inl hj; exact .inr (.inr hj))) (by simpa using hsz) (fun j hj => ?_) (fun j hj hjl e he hb => ?_) hr' ?_ ?_
      · obtain ⟨s1, s2, s3⟩ := List.pairwise_append.1 hs
        exact List.pairwise_append.2 ⟨s1, (List.pairwise_cons.1 s2).2, fun x hx y hy => s3 x hx y (by simp [hy])⟩
      · by_cases hji : j = i
        · subst hji
          have h1 : (listed.setIfInBounds j true).getD j true = true := by
            have : j < listed.size := by omega
            simp [Array.getD_eq_getD_getElem?, this]
          rw [h1]
          constructor
          · intro h; cases h
          · intro h; exact absurd rfl (hni h)
        · rw [getD_set_ne true (fun e => hji e.symm), hli j hj]
          simp [hji]
      · by_cases hji : j = i
        · subst hji
          have := (hready _ ho e he hb).2
          simp only [List.mem_append, List.mem_cons, not_or] at this ⊢
          exact ⟨this.1, this.2.2⟩
        · have := hcl j hj (by
            simp only [List.mem_append, List.mem_cons, not_or] at hjl ⊢
            exact ⟨hjl.1, hji, hjl.2⟩) e he hb
          simp only [List.mem_append, List.mem_cons, not_or] at this ⊢
          exact ⟨this.1, this.2.2⟩
      · rw [List.map_append]
        exact hf2.step (hok i hisz) g1
      · rw [List.map_append]
        exact g2

end Cal
