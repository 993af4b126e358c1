/- A calculus of our own, thirty-first part: code laid out for reckoning: guards resolved, positions left out; its rules. No program is named here. -/
import Derived.Test.YthaebckdhcnkfaaCalZe
set_option linter.unusedSimpArgs false
set_option linter.unusedVariables false
namespace Cal
open Go Go.RowKit

structure Op1 where
  dst : Option Nat
  op : Op
  g : Option (Nat × Bool)

inductive Code1 where
  | skip
  | region (mk : List Nat) (dr : Bool) (lo : List Nat) (ops : List Op1)
  | seq (a b : Code1)
  | cond (c : Operand) (x y : Code1)
  | block (id : Nat) (c : Code1)
  | loop (c : Code1)
  | exit (id : Nat)
  | ret

def comp1 (ops : Array Oper) (o : Oper) : Option Op1 :=
  match o.guard with
  | none => some ⟨o.dst, o.op, none⟩
  | some (j, want) => match (ops[j]?).bind (·.dst) with
    | some t => some ⟨o.dst, o.op, some (t, want)⟩
    | none => none

def comps (ops : Array Oper) : List Oper → Option (List Op1)
  | [] => some []
  | o :: l => match comp1 ops o, comps ops l with
    | some x, some xs => some (x :: xs)
    | _, _ => none

def two {α β γ : Type} (f : α → β → γ) (x : Option α) (y : Option β) : Option γ := match x, y with
  | some a, some b => some (f a b)
  | _, _ => none

def comp (lo : Nat → List Nat) : Code → Option Code1
  | .skip => some .skip
  | .region id ops dr => (comps ops ops.toList).map (.region (makes ops.toList) dr (lo id))
  | .seq a b => two .seq (comp lo a) (comp lo b)
  | .cond c x y => two (.cond c) (comp lo x) (comp lo y)
  | .block id c => (comp lo c).map (.block id)
  | .loop c => (comp lo c).map .loop
  | .exit id => some (.exit id)
  | .ret => some .ret
  | _ => none

def muteB (dr : Bool) (lo : List Nat) (d : Option Nat) : Bool := dr && !(lo.contains (d.getD 0))

def step1 (P : Program) (dr : Bool) (lo : List Nat) (d : Option Nat) (op : Op) (st : St) (K : St → Prop) : Prop :=
  match op with
  | .call { callee := .value (.func f), args := args, .. } => CallK P f (muteB dr lo d) st (args.toList.map st.ev) d K
  | op => andT (muted (noisy op && muteB dr lo d) (d.getD 0) (evOp P (d.getD 0) st op)) fun r => K (st.eff' d r.1 r.2)

def wantA (want : Bool) : AV → Option Bool
  | .t (.v (.bool b)) => some (b == want)
  | .tup [] => some false
  | _ => none

def guard1 (P : Program) (dr : Bool) (lo : List Nat) (d : Option Nat) (op : Op) (want : Bool) (v : AV) (st : St) (K : St → Prop) : Prop :=
  andT (wantA want v) fun b => onB b (step1 P dr lo d op st K) (K (st.put d (.tup [])))

def stepG (P : Program) (dr : Bool) (lo : List Nat) (o : Op1) (st : St) (K : St → Prop) : Prop :=
  match o.g with
  | none => step1 P dr lo o.dst o.op st K
  | some (t, want) => guard1 P dr lo o.dst o.op want (st.tm t) st K

def wpM (P : Program) (dr : Bool) (lo : List Nat) : List Op1 → St → (St → Prop) → Prop
  | [], st, K => K st
  | o :: l, st, K => stepG P dr lo o st fun st' => wpM P dr lo l st' K

def wp1 (P : Program) : Code1 → (Ex → St → Prop) → St → Prop
  | .skip, Q, st => Q .normal st
  | .region mk dr lo ops, Q, st => wpM P dr lo ops (st.kill mk) (Q .normal)
  | .seq a b, Q, st => wp1 P a (thenQ (wp1 P b Q) Q) st
  | .cond c x y, Q, st => andT (boolA (st.ev c)) fun b => onB b (wp1 P x Q st) (wp1 P y Q st)
  | .block id c, Q, st => wp1 P c (inBlk id Q) st
  | .loop c, Q, st => ∃ (I : St → Prop) (μ : St → Nat), I st ∧ ∀ st, I st → wp1 P c (thenQ (fun st' => I st' ∧ μ st' < μ st) Q) st
  | .exit id, Q, st => Q (.exit id) st
  | .ret, Q, st => Q .ret st

theorem CallK_mono {P : Program} {f : FuncId} {mute : Bool} {st : St} {vs : List AV} {d : Option Nat} {K K' : St → Prop} (h : CallK P f mute st vs d K) (hk : ∀ s, K s → K' s) : CallK P f mute st vs d K' := by
  obtain ⟨sh, vsF, as, res, outs, keep, h0, h1, h2, h3, h4, h5, h6⟩ := h
  exact ⟨sh, vsF, as, res, outs, keep, h0, h1, h2, h3, h4, h5, hk _ h6⟩
theorem step1_mono {P : Program} {dr : Bool} {lo : List Nat} {d : Option Nat} {op : Op} {st : St} {K K' : St → Prop} (h : step1 P dr lo d op st K) (hk : ∀ s, K s → K' s) : step1 P dr lo d op st K' := by
  unfold step1 at *
  split at h
  · exact CallK_mono h hk
  · exact andT_mono h fun r hr => hk _ hr
theorem stepG_mono {P : Program} {dr : Bool} {lo : List Nat} {o : Op1} {st : St} {K K' : St → Prop} (h : stepG P dr lo o st K) (hk : ∀ s, K s → K' s) : stepG P dr lo o st K' := by
  unfold stepG at *
  split at h
  · exact step1_mono h hk
  · exact andT_mono h fun b hb => onB_mono hb (fun h1 => step1_mono h1 hk) (hk _)
theorem wpM_mono {P : Program} {dr : Bool} {lo : List Nat} : ∀ {l : List Op1} {st : St} {K K' : St → Prop}, wpM P dr lo l st K → (∀ s, K s → K' s) → wpM P dr lo l st K'
  | [], _, _, _, h, hk => hk _ h
  | _ :: _, _, _, _, h, hk => by
    unfold wpM at *
    exact stepG_mono h fun s hs => wpM_mono hs hk
theorem thenQ_mono {K K' : St → Prop} {Q Q' : Ex → St → Prop} (h1 : ∀ s, K s → K' s) (h2 : ∀ e s, Q e s → Q' e s) : ∀ e s, thenQ K Q e s → thenQ K' Q' e s := fun e s h => by
  cases e
  · exact h1 s h
  · exact h2 _ s h
  · exact h2 _ s h
theorem inBlk_mono {id : Nat} {Q Q' : Ex → St → Prop} (h2 : ∀ e s, Q e s → Q' e s) : ∀ e s, inBlk id Q e s → inBlk id Q' e s := fun e s h => by
  cases e with
  | normal => exact h2 _ s h
  | ret => exact h2 _ s h
  | exit i =>
    simp only [inBlk] at *
    split
    · rename_i hi; rw [if_pos hi] at h; exact h2 _ _ h
    · rename_i hi; rw [if_neg hi] at h; exact h2 _ _ h
theorem wp1_mono {P : Program} : ∀ (c : Code1) {Q Q' : Ex → St → Prop} {st : St}, wp1 P c Q st → (∀ e s, Q e s → Q' e s) → wp1 P c Q' st
  | .skip, _, _, _, h, hq => hq _ _ h
  | .region mk dr lo ops, _, _, _, h, hq => wpM_mono h fun s hs => hq _ _ hs
  | .seq a b, _, _, _, h, hq => wp1_mono a h (thenQ_mono (fun s hs => wp1_mono b hs hq) hq)
  | .cond c x y, _, _, _, h, hq => andT_mono h fun b hb => onB_mono hb (fun h1 => wp1_mono x h1 hq) (fun h1 => wp1_mono y h1 hq)
  | .block id c, _, _, _, h, hq => wp1_mono c h (inBlk_mono hq)
  | .loop c, _, _, _, h, hq => by
    obtain ⟨I, μ, h0, h1⟩ := h
    exact ⟨I, μ, h0, fun s hs => wp1_mono c (h1 s hs) (thenQ_mono (fun _ h => h) hq)⟩
  | .exit _, _, _, _, h, hq => hq _ _ h
  | .ret, _, _, _, h, hq => hq _ _ h

theorem step1_op {P : Program} {ops : Array Oper} {dr : Bool} {lo : List Nat} {o : Oper} {st : St} {K : St → Prop} (h : step1 P dr lo o.dst o.op st K) : wpOp P ⟨ops, dr, lo⟩ o st K := by
  unfold step1 at h
  unfold wpOp
  exact h
theorem wpM_wpL {P : Program} {ops : Array Oper} {dr : Bool} {lo : List Nat} : ∀ {os : List Oper} {os1 : List Op1} {st : St} {K : St → Prop}, comps ops os = some os1 → wpM P dr lo os1 st K → wpL P ⟨ops, dr, lo⟩ os st K
  | [], os1, st, K, hc, h => by
    unfold comps at hc
    cases hc
    rw [wpL]
    exact h
  | o :: os, os1, st, K, hc, h => by
    unfold comps at hc
    split at hc
    · rename_i x xs hx hxs
      cases hc
      unfold wpM at h
      rw [wpL]
      unfold comp1 at hx
      unfold stepG at h
      split at hx
      · rename_i hg
        cases hx
        rw [hg]
        exact ⟨true, rfl, wpOp_mono (step1_op h) fun s hs => wpM_wpL hxs hs⟩
      · rename_i j want hg
        split at hx
        · rename_i t ht
          cases hx
          rw [hg]
          obtain ⟨b, hb, h⟩ := h
          refine ⟨b, ?_, ?_⟩
          · simp only [guardA, ht, Option.map_some]
            unfold wantA at hb
            split at hb
            · rename_i b' hb'
              rw [hb']
              exact hb
            · rename_i hb'
              rw [hb']
              exact hb
            · cases hb
          · exact onB_mono h (fun h1 => wpOp_mono (step1_op h1) fun s hs => wpM_wpL hxs hs) (fun h1 => wpM_wpL hxs h1)
        · cases hx
    · cases hc

theorem two_inv {α β γ : Type} {f : α → β → γ} {x : Option α} {y : Option β} {z : γ} (h : two f x y = some z) : ∃ a b, x = some a ∧ y = some b ∧ z = f a b := by
  unfold two at h
  split at h
  · cases h
    exact ⟨_, _, rfl, rfl, rfl⟩
  · cases h

theorem wp1_wpC {P : Program} {lo : Nat → List Nat} : ∀ (c : Code) {k : Code1} {Q : Ex → St → Prop} {st : St}, comp lo c = some k → wp1 P k Q st → wpC P lo c Q st
  | .skip, k, Q, st, hc, h => by unfold comp at hc; cases hc; rw [wpC_skip]; exact h
  | .region id ops dr, k, Q, st, hc, h => by
    unfold comp at hc
    cases ho : comps ops ops.toList with
    | none => simp [ho] at hc
    | some os1 =>
      simp only [ho, Option.map_some, Option.some.injEq] at hc
      subst hc
      rw [wpC_region]
      exact wpM_wpL ho h
  | .seq a b, k, Q, st, hc, h => by
    unfold comp at hc
    obtain ⟨x, y, hx, hy, rfl⟩ := two_inv hc
    refine wpC_seq fun K hK => wpC_mono a (wp1_wpC a hx h) (thenQ_mono (fun s hs => hK s (wp1_wpC b hy hs)) fun _ _ h => h)
  | .cond c x y, k, Q, st, hc, h => by
    unfold comp at hc
    obtain ⟨k1, k2, hx, hy, rfl⟩ := two_inv hc
    rw [wpC]
    exact andT_mono h fun b hb => onB_mono hb (fun h1 => wp1_wpC x hx h1) (fun h1 => wp1_wpC y hy h1)
  | .block id c, k, Q, st, hc, h => by
    unfold comp at hc
    cases ho : comp lo c with
    | none => simp [ho] at hc
    | some k1 =>
      simp only [ho, Option.map_some, Option.some.injEq] at hc
      subst hc
      exact wpC_block (wp1_wpC c ho h)
  | .loop c, k, Q, st, hc, h => by
    unfold comp at hc
    cases ho : comp lo c with
    | none => simp [ho] at hc
    | some k1 =>
      simp only [ho, Option.map_some, Option.some.injEq] at hc
      subst hc
      obtain ⟨I, μ, h0, h1⟩ := h
      refine wpC_loop I μ h0 fun s hs K hK => wpC_mono c (wp1_wpC c ho (h1 s hs)) (thenQ_mono (fun s' hs' => hK s' hs'.1 hs'.2) fun _ _ h => h)
  | .exit id, k, Q, st, hc, h => by unfold comp at hc; cases hc; rw [wpC_exit]; exact h
  | .ret, k, Q, st, hc, h => by unfold comp at hc; cases hc; rw [wpC_ret]; exact h
  | .scope c, _, _, _, hc, _ => by unfold comp at hc; cases hc
  | .rangeFunc .., _, _, _, hc, _ => by unfold comp at hc; cases hc
  | .label _, _, _, _, hc, _ => by unfold comp at hc; cases hc
  | .goto _, _, _, _, hc, _ => by unfold comp at hc; cases hc
  | .refuse _, _, _, _, hc, _ => by unfold comp at hc; cases hc

/-- A contract, by the calculus, of code laid out. -/
theorem callsF_of_wp1 {P : Program} {f : FuncId} {fn : Func} {c : Code} {k : Code1} (lo : Nat → List Nat) (hm : P.follows .mixedOrders = true) (hf : P.funcs[f]? = some fn) (hb : fn.body = some c) (hname : (fn.name == "runtime.NumGoroutine") = false) (hok : (decide (fn.ntmps ≤ base) && okCode fn.ntmps lo c) = true) (hc : comp lo c = some k) {rs : List ResultVar} (hrs : fn.results.toList = rs)
    {as : List Arg} {res : RV} {outs : List (Option Arg)} (hlen : as.length ≤ fn.ntmps) (hlike : Arg.like as outs) (hwp : wp1 P k (Fin (Back P rs as res outs)) (St.enter as)) : CallsF P f as res outs := by
  subst hrs
  exact callsF_of_wp lo hm hf hb hname hok hlen hlike (wp1_wpC c hc hwp)

/-! ### rules -/
theorem wp1_seq {P : Program} {a b : Code1} {Q : Ex → St → Prop} {st : St} (h : ∀ K : St → Prop, (∀ s, wp1 P b Q s → K s) → wp1 P a (thenQ K Q) st) : wp1 P (.seq a b) Q st := by
  show wp1 P a (thenQ (wp1 P b Q) Q) st
  exact h _ fun _ h => h
theorem wp1_block {P : Program} {id : Nat} {c : Code1} {Q : Ex → St → Prop} {st : St} (h : wp1 P c (inBlk id Q) st) : wp1 P (.block id c) Q st := h
theorem M_cons {P : Program} {dr : Bool} {lo : List Nat} {o : Op1} {l : List Op1} {st : St} {K : St → Prop} (h : ∀ K' : St → Prop, (∀ s, wpM P dr lo l s K → K' s) → stepG P dr lo o st K') : wpM P dr lo (o :: l) st K := by
  show stepG P dr lo o st fun st' => wpM P dr lo l st' K
  exact h _ fun _ h => h
theorem M_nil {P : Program} {dr : Bool} {lo : List Nat} {st : St} {K : St → Prop} (h : K st) : wpM P dr lo [] st K := h
theorem wp1_region {P : Program} {mk : List Nat} {dr : Bool} {lo : List Nat} {ops : List Op1} {Q : Ex → St → Prop} {st : St} (h : wpM P dr lo ops (st.kill mk) (Q .normal)) : wp1 P (.region mk dr lo ops) Q st := h
@[simp] theorem wp1_skip (P : Program) (Q : Ex → St → Prop) (st : St) : wp1 P .skip Q st = Q .normal st := rfl
@[simp] theorem wp1_exit (P : Program) (id : Nat) (Q : Ex → St → Prop) (st : St) : wp1 P (.exit id) Q st = Q (.exit id) st := rfl
@[simp] theorem wp1_ret (P : Program) (Q : Ex → St → Prop) (st : St) : wp1 P .ret Q st = Q .ret st := rfl
@[simp] theorem wpM_nil (P : Program) (dr : Bool) (lo : List Nat) (st : St) (K : St → Prop) : wpM P dr lo [] st K = K st := rfl
/-- A branch, as data. -/
def condK (g : Option Bool) (X Y : St → Prop) (st : St) : Prop := andT g fun b => onB b (X st) (Y st)
theorem wp1_cond {P : Program} {c : Operand} {x y : Code1} {Q : Ex → St → Prop} {st : St} (h : ∀ X Y : St → Prop, (∀ s, wp1 P x Q s → X s) → (∀ s, wp1 P y Q s → Y s) → condK (boolA (st.ev c)) X Y st) : wp1 P (.cond c x y) Q st := by
  exact h _ _ (fun _ h => h) (fun _ h => h)
@[simp] theorem condK_true (X Y : St → Prop) (st : St) : condK (some true) X Y st = X st := by simp [condK]
@[simp] theorem condK_false (X Y : St → Prop) (st : St) : condK (some false) X Y st = Y st := by simp [condK]
theorem condK_of {b : Bool} {X Y : St → Prop} {st : St} (h1 : b = true → X st) (h2 : b = false → Y st) : condK (some b) X Y st := by
  cases b
  · simpa using h2 rfl
  · simpa using h1 rfl
/-- An outcome, as data. -/
def outT (x : Option (AV × Eff)) (d : Option Nat) (st : St) (K : St → Prop) : Prop := andT x fun r => K ((st.eff r.2).put d r.1)
@[simp] theorem outT_some (r : AV × Eff) (d : Option Nat) (st : St) (K : St → Prop) : outT (some r) d st K = K ((st.eff r.2).put d r.1) := by simp [outT]
@[simp] theorem outT_none (d : Option Nat) (st : St) (K : St → Prop) : outT none d st K = False := by simp [outT]
theorem outT_ite {c : Prop} [Decidable c] {x y : Option (AV × Eff)} {d : Option Nat} {st : St} {K : St → Prop} (h1 : c → outT x d st K) (h2 : ¬ c → outT y d st K) : outT (if c then x else y) d st K := by
  split
  · exact h1 (by assumption)
  · exact h2 (by assumption)
def callT (P : Program) (f : FuncId) (mute : Bool) (st : St) (vs : List AV) (d : Option Nat) (K : St → Prop) : Prop := CallK P f mute st vs d K
@[simp] theorem stepG_none (P : Program) (dr : Bool) (lo : List Nat) (d : Option Nat) (op : Op) (st : St) (K : St → Prop) : stepG P dr lo ⟨d, op, none⟩ st K = step1 P dr lo d op st K := rfl
@[simp] theorem stepG_some (P : Program) (dr : Bool) (lo : List Nat) (d : Option Nat) (op : Op) (t : Nat) (want : Bool) (st : St) (K : St → Prop) : stepG P dr lo ⟨d, op, some (t, want)⟩ st K = guard1 P dr lo d op want (st.tm t) st K := rfl
@[simp] theorem guard1_tt (P : Program) (dr : Bool) (lo : List Nat) (d : Option Nat) (op : Op) (st : St) (K : St → Prop) : guard1 P dr lo d op true (.t (.v (.bool true))) st K = step1 P dr lo d op st K := by simp [guard1, wantA]
@[simp] theorem guard1_ff (P : Program) (dr : Bool) (lo : List Nat) (d : Option Nat) (op : Op) (st : St) (K : St → Prop) : guard1 P dr lo d op false (.t (.v (.bool false))) st K = step1 P dr lo d op st K := by simp [guard1, wantA]
@[simp] theorem guard1_tf (P : Program) (dr : Bool) (lo : List Nat) (d : Option Nat) (op : Op) (st : St) (K : St → Prop) : guard1 P dr lo d op true (.t (.v (.bool false))) st K = K (st.put d (.tup [])) := by simp [guard1, wantA]
@[simp] theorem guard1_ft (P : Program) (dr : Bool) (lo : List Nat) (d : Option Nat) (op : Op) (st : St) (K : St → Prop) : guard1 P dr lo d op false (.t (.v (.bool true))) st K = K (st.put d (.tup [])) := by simp [guard1, wantA]
@[simp] theorem guard1_no (P : Program) (dr : Bool) (lo : List Nat) (d : Option Nat) (op : Op) (want : Bool) (st : St) (K : St → Prop) : guard1 P dr lo d op want (.tup []) st K = K (st.put d (.tup [])) := by simp [guard1, wantA]
theorem guard1_or {P : Program} {dr : Bool} {lo : List Nat} {d : Option Nat} {op : Op} {want b : Bool} {st : St} {K : St → Prop} (h1 : b = true → guard1 P dr lo d op want (.t (.v (.bool true))) st K) (h2 : b = false → guard1 P dr lo d op want (.t (.v (.bool false))) st K) : guard1 P dr lo d op want (.t (.v (.bool b))) st K := by
  cases b
  · exact h2 rfl
  · exact h1 rfl
section
variable (P : Program) (dr : Bool) (lo : List Nat) (d : Option Nat) (st : St) (K : St → Prop)
@[simp] theorem step1_move (x : Operand) : step1 P dr lo d (.move x) st K = K (st.put d (st.ev x)) := by simp [step1, evOp, St.eff', noisy, muted]
@[simp] theorem step1_assign (x : Operand) : step1 P dr lo d (.assign x) st K = K (st.put d (st.ev x)) := by simp [step1, evOp, St.eff', noisy, muted]
@[simp] theorem step1_pick (a b c : Operand) : step1 P dr lo d (.pick a b c) st K = outT (pickA (st.ev a) (st.ev b) (st.ev c)) d st K := rfl
@[simp] theorem step1_alloc (t : TypeId) : step1 P dr lo d (.alloc t) st K = outT (evOp P (d.getD 0) st (.alloc t)) d st K := rfl
@[simp] theorem step1_box (t : TypeId) (x : Operand) : step1 P dr lo d (.box t x) st K = outT (evOp P (d.getD 0) st (.box t x)) d st K := rfl
@[simp] theorem step1_build (t : TypeId) (ps : Array (Nat × Operand)) : step1 P dr lo d (.build t ps) st K = outT (evOp P (d.getD 0) st (.build t ps)) d st K := rfl
@[simp] theorem step1_buildSlice (t : TypeId) (n : Nat) (ps : Array (Nat × Operand)) : step1 P dr lo d (.buildSlice t n ps) st K = outT (muted (muteB dr lo d) (d.getD 0) (evOp P (d.getD 0) st (.buildSlice t n ps))) d st K := rfl
@[simp] theorem step1_makeSlice (t : TypeId) (x y : Operand) : step1 P dr lo d (.makeSlice t x y) st K = outT (evOp P (d.getD 0) st (.makeSlice t x y)) d st K := rfl
@[simp] theorem step1_load (t : TypeId) (x : Operand) : step1 P dr lo d (.load t x) st K = outT (evOp P (d.getD 0) st (.load t x)) d st K := rfl
@[simp] theorem step1_store (t : TypeId) (x y : Operand) : step1 P dr lo d (.store t x y) st K = outT (evOp P (d.getD 0) st (.store t x y)) d st K := rfl
@[simp] theorem step1_nilCheck (x : Operand) : step1 P dr lo d (.nilCheck x) st K = outT (evOp P (d.getD 0) st (.nilCheck x)) d st K := rfl
@[simp] theorem step1_binOp (o : BinOp) (t : TypeId) (x y : Operand) (t2 : TypeId) : step1 P dr lo d (.binOp o t x y t2) st K = outT (evOp P (d.getD 0) st (.binOp o t x y t2)) d st K := rfl
@[simp] theorem step1_unOp (o : UnOp) (t : TypeId) (x : Operand) : step1 P dr lo d (.unOp o t x) st K = outT (evOp P (d.getD 0) st (.unOp o t x)) d st K := rfl
@[simp] theorem step1_convert (t t2 : TypeId) (x : Operand) : step1 P dr lo d (.convert t t2 x) st K = outT (evOp P (d.getD 0) st (.convert t t2 x)) d st K := rfl
@[simp] theorem step1_slice (t : TypeId) (x : Operand) (a b c : Option Operand) : step1 P dr lo d (.slice t x a b c) st K = outT (evOp P (d.getD 0) st (.slice t x a b c)) d st K := rfl
@[simp] theorem step1_fieldAddr (t : TypeId) (x : Operand) (f : Nat) : step1 P dr lo d (.fieldAddr t x f) st K = outT (evOp P (d.getD 0) st (.fieldAddr t x f)) d st K := rfl
@[simp] theorem step1_field (t : TypeId) (x : Operand) (f : Nat) : step1 P dr lo d (.field t x f) st K = outT (evOp P (d.getD 0) st (.field t x f)) d st K := rfl
@[simp] theorem step1_indexAddr (t : TypeId) (x y : Operand) : step1 P dr lo d (.indexAddr t x y) st K = outT (evOp P (d.getD 0) st (.indexAddr t x y)) d st K := rfl
@[simp] theorem step1_index (t : TypeId) (x y : Operand) : step1 P dr lo d (.index t x y) st K = outT (evOp P (d.getD 0) st (.index t x y)) d st K := rfl
@[simp] theorem step1_extract (x : Operand) (i : Nat) : step1 P dr lo d (.extract x i) st K = outT (evOp P (d.getD 0) st (.extract x i)) d st K := rfl
@[simp] theorem step1_builtin (b : Builtin) (xs : Array Operand) (ts : Array TypeId) : step1 P dr lo d (.call ⟨.builtin b, xs, ts⟩) st K = outT (evOp P (d.getD 0) st (.call ⟨.builtin b, xs, ts⟩)) d st K := rfl
@[simp] theorem step1_call (f : FuncId) (xs : Array Operand) (ts : Array TypeId) : step1 P dr lo d (.call ⟨.value (.func f), xs, ts⟩) st K = callT P f (muteB dr lo d) st (xs.toList.map st.ev) d K := rfl
end
/-- A loop, its invariant with a number that falls. -/
theorem wp1_loop {P : Program} {c : Code1} {Q : Ex → St → Prop} {st : St} (I : Nat → St → Prop) (n : Nat) (h0 : I n st)
    (h : ∀ n s, I n s → ∀ K : St → Prop, (∀ m s', m < n → I m s' → K s') → wp1 P c (thenQ K Q) s) : wp1 P (.loop c) Q st := by
  classical
  have least : ∀ s, (∃ n, I n s) → ∃ n, I n s ∧ ∀ k, I k s → n ≤ k := fun s ⟨n, hn⟩ => by
    induction n using Nat.strongRecOn with
    | _ n ih =>
      by_cases hlt : ∃ k, k < n ∧ I k s
      · obtain ⟨k, hk1, hk2⟩ := hlt
        exact ih k hk1 hk2
      · exact ⟨n, hn, fun k hk => Nat.le_of_not_lt fun hlt' => hlt ⟨k, hlt', hk⟩⟩
  let μ : St → Nat := fun s => if hex : ∃ n, I n s then (least s hex).choose else 0
  refine ⟨fun s => ∃ n, I n s, μ, ⟨n, h0⟩, fun s hex => ?_⟩
  have hs := (least s hex).choose_spec
  refine h _ s hs.1 _ fun m s' hm hI => ?_
  have hex' : ∃ n, I n s' := ⟨m, hI⟩
  have h1 : μ s' = (least s' hex').choose := by simp only [μ, dif_pos hex']
  have h2 : μ s = (least s hex).choose := by simp only [μ, dif_pos hex]
  have h3 := (least s' hex').choose_spec.2 m hI
  exact ⟨⟨m, hI⟩, by omega⟩

/-- A call whose result names nothing. -/
theorem callT_flat {P : Program} {f : FuncId} {mute : Bool} {st : St} {vs : List AV} {d : Option Nat} {K : St → Prop} {as : List Arg} {res : RV} (h : CallsF P f as res []) (hf : res.flat) (ha : st.args vs as) (hm : mutsOf vs as = [])
    (hK : K ((st.eff (retOf d res).2).put d (retOf d res).1)) : callT P f mute st vs d K := by
  have ho : outEff vs as [] = [] := by
    have := outEff_ids (st := st) ha h.2.1
    rw [hm] at this
    exact List.map_eq_nil_iff.1 this
  unfold callT CallK
  refine ⟨nones as, vs, as, res, [], true, flatV_args ha, ha, ⟨by rw [hm]; exact List.nodup_nil, by rw [hm]; simp⟩, h, fun _ => ⟨hf, trivial⟩, fun _ => by simp [callFrz, ho], ?_⟩
  simpa [callFrz, ho] using hK
theorem callT_gen {P : Program} {f : FuncId} {mute : Bool} {st : St} {vs : List AV} {d : Option Nat} {K : St → Prop} {as : List Arg} {res : RV} {outs : List (Option Arg)} (keep : Bool) (h : CallsF P f as res outs) (hf : keep = true → res.flat ∧ Arg.flats outs) (ha : st.args vs as) (hm : apartArgs vs as)
    (hmu : mute = true → callFrz keep st vs as ++ outEff vs as outs = [])
    (hK : K ((st.eff (callFrz keep st vs as ++ outEff vs as outs ++ (retOf d res).2)).put d (retOf d res).1)) : callT P f mute st vs d K := by
  unfold callT CallK
  exact ⟨nones as, vs, as, res, outs, keep, flatV_args ha, ha, hm, h, hf, hmu, hK⟩

theorem callT_sh {P : Program} {f : FuncId} {mute : Bool} {st : St} {vs : List AV} {d : Option Nat} {K : St → Prop} {sh : Shape} {vsF : List AV} {as : List Arg} {res : RV} {outs : List (Option Arg)} (keep : Bool) (h : CallsFS P f sh as res outs) (hfl : flatV sh vs = some vsF) (ha : st.args vsF as) (hf : keep = true → res.flat ∧ Arg.flats outs) (hm : apartArgs vsF as)
    (hmu : mute = true → callFrz keep st vsF as ++ outEff vsF as outs = [])
    (hK : K ((st.eff (callFrz keep st vsF as ++ outEff vsF as outs ++ (retOf d res).2)).put d (retOf d res).1)) : callT P f mute st vs d K := by
  unfold callT CallK
  exact ⟨sh, vsF, as, res, outs, keep, hfl, ha, hm, h, hf, hmu, hK⟩

attribute [irreducible] wp1 wpM stepG step1 guard1 condK outT callT

end Cal
