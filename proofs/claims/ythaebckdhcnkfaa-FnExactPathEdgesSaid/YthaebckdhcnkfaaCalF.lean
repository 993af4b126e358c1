/- A calculus of our own, fifth part: the operations that write nothing: the model does what the evaluator says. No program is named here. -/
import Derived.Test.YthaebckdhcnkfaaCalD
set_option linter.unusedSimpArgs false
set_option linter.unusedVariables false
namespace Cal
open Go Go.RowKit

variable {P : Program} {w0 w : World} {S0 S : Nat → Prop} {own : List Nat} {N : Nat} {m cap : Id → Nat} {st : St} {a : Act}

theorem RelAt.put (h : RelAt w0 S0 own N m cap S st a w) {d : Option Nat} (hd : ∀ t, d = some t → t < N) {v : AV} {u : Value} (hv : AVrep w S m cap st.ob v u) :
    RelAt w0 S0 own N m cap S (st.put d v) (a.put d u) w := by
  cases d with
  | none => exact h
  | some t =>
    have ht := hd t rfl
    refine ⟨by simpa [Act.put] using h.size, h.defers, h.after, h.stab, h.base, h.fresh, h.obs, h.mine, h.inj, fun s hs => ?_, fun s hs => ?_⟩
    · by_cases hst : s = t
      · subst hst
        have hsz : s < a.tmps.size := by rw [h.size]; exact hs
        simpa [Act.put, St.put, Array.getD_eq_getD_getElem?, hsz] using hv
      · have := h.tm s hs
        simp only [Act.put, St.put, if_neg hst]
        rw [Array.getD_eq_getD_getElem?] at this ⊢
        rw [Array.getElem?_setIfInBounds_ne (fun e => hst e.symm)]
        exact this
    · simp only [St.put]
      rw [if_neg (by omega)]
      exact h.far s hs

theorem Trep_v {x : Value} (hp : plain x = true) : Trep w S (.v x) x := by unfold Trep; exact ⟨rfl, hp⟩
theorem AVrep_v {x : Value} (hp : plain x = true) {ob : Id → Option Ob} : AVrep w S m cap ob (.t (.v x)) x := by unfold AVrep; exact Trep_v hp
theorem AVrep_v_inv {x u : Value} {ob : Id → Option Ob} (h : AVrep w S m cap ob (.t (.v x)) u) : u = x ∧ plain x = true := by
  unfold AVrep Trep at h; exact h

theorem AVreps_plain {ob : Id → Option Ob} : ∀ {l : List Value}, (∀ x ∈ l, plain x = true) → AVreps w S m cap ob (l.map fun u => .t (.v u)) l
  | [], _ => by simp [AVreps]
  | x :: l, h => by
    simp only [List.map_cons]; unfold AVreps
    exact ⟨x, l, rfl, AVrep_v (h x (by simp)), AVreps_plain fun y hy => h y (by simp [hy])⟩

theorem AVrep_cst (x : Value) {ob : Id → Option Ob} : AVrep w S m cap ob (cst x) x := by
  unfold cst
  split
  · rename_i cs
    split
    · rename_i hc
      unfold AVrep
      refine ⟨cs.toList, by simp, AVreps_plain fun x hx => ?_⟩
      rw [Array.all_eq_true] at hc
      obtain ⟨i, hi, rfl⟩ := List.mem_iff_getElem.1 hx
      simpa using hc i (by simpa using hi)
    · unfold AVrep; trivial
  · split
    · exact AVrep_v (by assumption)
    · unfold AVrep; trivial

theorem RelAt.ev (h : RelAt w0 S0 own N m cap S st a w) (x : Operand) : AVrep w S m cap st.ob (st.ev x) (a.eval x) := by
  cases x with
  | tmp t =>
    show AVrep w S m cap st.ob (st.tm t) (a.tmps.getD t undef)
    by_cases ht : t < N
    · exact h.tm t ht
    · rw [h.far t (Nat.le_of_not_lt ht)]; unfold AVrep; trivial
  | const v => exact AVrep_cst v
  | global g => unfold St.ev AVrep; trivial
  | func f => unfold St.ev AVrep; trivial

/-- The model's operation gives this value, and leaves the world alone. -/
def Still (P : Program) (o : Oper) (a : Act) (w : World) (u : Value) : Prop := (execOp a.eval o).run P w = .ok (.value u) w

theorem still_move {o : Oper} {x : Operand} (ho : o.op = .move x ∨ o.op = .assign x) : Still P o a w (a.eval x) := by
  rcases ho with ho | ho <;> simp [Still, execOp, ho]

theorem still_pick {o : Oper} {c x y : Operand} (ho : o.op = .pick c x y) (h : RelAt w0 S0 own N m cap S st a w) {v : AV} {f : Eff} (hv : pickA (st.ev c) (st.ev x) (st.ev y) = some (v, f)) :
    ∃ u, Still P o a w u ∧ AVrep w S m cap st.ob v u ∧ f = [] := by
  have hc := h.ev c
  unfold pickA at hv
  split at hv
  · rename_i t he
    rw [he] at hc
    obtain ⟨hc, _⟩ := AVrep_v_inv hc
    simp only [Option.some.injEq, Prod.mk.injEq] at hv
    obtain ⟨rfl, rfl⟩ := hv
    cases t
    · exact ⟨a.eval y, by simp [Still, execOp, ho, hc, asBool], h.ev y, rfl⟩
    · exact ⟨a.eval x, by simp [Still, execOp, ho, hc, asBool], h.ev x, rfl⟩
  · cases hv

theorem still_nil {o : Oper} {x : Operand} (ho : o.op = .nilCheck x) (h : RelAt w0 S0 own N m cap S st a w) {v : AV} {f : Eff} (hv : nilA (st.ev x) = some (v, f)) :
    ∃ u, Still P o a w u ∧ AVrep w S m cap st.ob v u ∧ f = [] := by
  have hx := h.ev x
  unfold nilA at hv
  split at hv
  · rename_i id i j he
    rw [he] at hx
    have hx' := hx
    unfold AVrep at hx'
    obtain ⟨ad, h1, _⟩ := hx'
    simp only [Option.some.injEq, Prod.mk.injEq] at hv
    obtain ⟨rfl, rfl⟩ := hv
    exact ⟨a.eval x, by simp [Still, execOp, ho, h1], hx, rfl⟩
  · rename_i cs he
    rw [he] at hx
    have hx' := hx
    unfold AVrep at hx'
    obtain ⟨b, off, h1, _⟩ := hx'
    simp only [Option.some.injEq, Prod.mk.injEq] at hv
    obtain ⟨rfl, rfl⟩ := hv
    exact ⟨a.eval x, by simp [Still, execOp, ho, h1], hx, rfl⟩
  · cases hv

theorem binV_plain {op : BinOp} {ty : Bool} {x y u : Value} (h : binV op ty x y = some u) : plain u = true := by
  unfold binV at h
  split at h
  · split at h
    · split at h <;> first | (cases h; rfl) | (split at h <;> first | (cases h; rfl) | cases h) | cases h
    · cases h
  · split at h <;> first | (cases h; rfl) | (split at h <;> first | (cases h; rfl) | cases h) | cases h
  · split at h
    · split at h <;> first | (cases h; rfl) | cases h
    · cases h
  · cases h

theorem run_eqGuard_int (op : BinOp) (t : TypeId) (o1 o2 : Operand) (k k' : IntKind) (a b : Int) (w : World) : (eqGuard op t o1 o2 (.int k a) (.int k' b)).run P w = .ok () w := by
  cases op <;> simp [eqGuard]
theorem run_eqGuard_str (op : BinOp) (t : TypeId) (o1 o2 : Operand) (a b : ByteArray) (w : World) : (eqGuard op t o1 o2 (.string a) (.string b)).run P w = .ok () w := by
  cases op <;> simp [eqGuard]
theorem run_eqGuard_bool (op : BinOp) (t : TypeId) (o1 o2 : Operand) (a b : Bool) (w : World) : (eqGuard op t o1 o2 (.bool a) (.bool b)).run P w = .ok () w := by
  cases op <;> simp [eqGuard]
theorem run_eql_bool2 (t : TypeId) (a b : Bool) (w : World) (ht : P.underlying t = some .bool) : (binOp .eql t (.bool a) (.bool b)).run P w = .ok (.bool (a == b)) w := by
  have e := run_equalIn_bool' (P := P) w 9999 t a b ht
  simp only [binOp]
  simp [Op.equal, Op.maxDepth, e]
theorem run_neq_bool2 (t : TypeId) (a b : Bool) (w : World) (ht : P.underlying t = some .bool) : (binOp .neq t (.bool a) (.bool b)).run P w = .ok (.bool !(a == b)) w := by
  have e := run_equalIn_bool' (P := P) w 9999 t a b ht
  simp only [binOp]
  simp [Op.equal, Op.maxDepth, e]

theorem run_binOp {op : BinOp} {t : TypeId} {x y u : Value} (w : World) (o1 o2 : Operand) (h : binV op (isBoolT (P.underlying t)) x y = some u) :
    ((eqGuard op t o1 o2 x y).run P w = .ok () w) ∧ (binOp op t x y).run P w = .ok u w := by
  unfold binV at h
  split at h
  · refine ⟨run_eqGuard_int .., ?_⟩
    split at h
    · rename_i hk; subst hk
      split at h <;> first
        | (cases h; simp [binOp, Op.intArith, Op.intCmp])
        | (split at h <;> first | (cases h; simp [binOp, Op.intDiv, *]) | cases h)
        | cases h
    · cases h
  · refine ⟨run_eqGuard_str .., ?_⟩
    split at h
    · split at h
      · cases h
      · rename_i hk
        cases h
        simp only [binOp, Op.stringOp, if_neg hk]
        rfl
    · cases h; simp [binOp, Op.stringOp]
    · cases h; simp [binOp, Op.stringOp]
    · cases h
  · refine ⟨run_eqGuard_bool .., ?_⟩
    split at h
    · rename_i ht
      have ht' : P.underlying t = some .bool := by
        unfold isBoolT at ht
        split at ht
        · assumption
        · cases ht
      split at h
      · cases h; exact run_eql_bool2 t _ _ w ht'
      · cases h; exact run_neq_bool2 t _ _ w ht'
      · cases h
    · cases h
  · cases h

theorem still_bin {o : Oper} {op : BinOp} {t t2 : TypeId} {x y : Operand} (ho : o.op = .binOp op t x y t2) (h : RelAt w0 S0 own N m cap S st a w) {v : AV} {f : Eff} (hv : binA op (isBoolT (P.underlying t)) (st.ev x) (st.ev y) = some (v, f)) :
    ∃ u, Still P o a w u ∧ AVrep w S m cap st.ob v u ∧ f = [] := by
  have hx := h.ev x
  have hy := h.ev y
  unfold binA at hv
  split at hv
  · rename_i p q hp hq
    rw [hp] at hx
    rw [hq] at hy
    obtain ⟨hx, _⟩ := AVrep_v_inv hx
    obtain ⟨hy, _⟩ := AVrep_v_inv hy
    cases hb : binV op (isBoolT (P.underlying t)) p q with
    | none => rw [hb] at hv; cases hv
    | some u =>
      rw [hb] at hv
      simp only [Option.map_some, Option.some.injEq, Prod.mk.injEq] at hv
      obtain ⟨rfl, rfl⟩ := hv
      refine ⟨u, ?_, AVrep_v (binV_plain hb), rfl⟩
      obtain ⟨r1, r2⟩ := run_binOp w x y hb
      simp [Still, execOp, ho, hx, hy, r1, r2]
  · cases hv

theorem still_un {o : Oper} {op : UnOp} {t : TypeId} {x : Operand} (ho : o.op = .unOp op t x) (h : RelAt w0 S0 own N m cap S st a w) {v : AV} {f : Eff} (hv : unA op (st.ev x) = some (v, f)) :
    ∃ u, Still P o a w u ∧ AVrep w S m cap st.ob v u ∧ f = [] := by
  have hx := h.ev x
  unfold unA at hv
  split at hv
  · rename_i p hp
    rw [hp] at hx
    obtain ⟨hx, _⟩ := AVrep_v_inv hx
    unfold unV at hv
    split at hv
    · simp only [Option.map_some, Option.some.injEq, Prod.mk.injEq] at hv
      obtain ⟨rfl, rfl⟩ := hv
      exact ⟨_, by simp [Still, execOp, ho, hx, Op.unary], AVrep_v rfl, rfl⟩
    · simp only [Option.map_some, Option.some.injEq, Prod.mk.injEq] at hv
      obtain ⟨rfl, rfl⟩ := hv
      exact ⟨_, by simp [Still, execOp, ho, hx, Op.unary, Op.intArith], AVrep_v rfl, rfl⟩
    · cases hv
  · cases hv

theorem still_conv {o : Oper} {t1 t2 : TypeId} {x : Operand} (ho : o.op = .convert t1 t2 x) (hsrc : (P.underlying t1).isSome) (h : RelAt w0 S0 own N m cap S st a w) {v : AV} {f : Eff} (hv : convA (P.underlying t2) (st.ev x) = some (v, f)) :
    ∃ u, Still P o a w u ∧ AVrep w S m cap st.ob v u ∧ f = [] := by
  have hx := h.ev x
  unfold convA at hv
  split at hv
  · rename_i k k' n ht hp
    rw [hp] at hx
    obtain ⟨hx, _⟩ := AVrep_v_inv hx
    simp only [Option.some.injEq, Prod.mk.injEq] at hv
    obtain ⟨rfl, rfl⟩ := hv
    obtain ⟨d, hd⟩ := Option.isSome_iff_exists.1 hsrc
    exact ⟨_, by simp [Still, execOp, ho, hx, convert, underlying, ht, hd, Conv.intToInt], AVrep_v rfl, rfl⟩
  · cases hv

end Cal
