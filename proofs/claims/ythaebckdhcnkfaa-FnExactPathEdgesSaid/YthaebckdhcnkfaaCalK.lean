/- A calculus of our own, tenth part: boxes, variables, slice literals: the model does what the evaluator says. No program is named here. -/
import Derived.Test.YthaebckdhcnkfaaCalJ
set_option linter.unusedSimpArgs false
set_option linter.unusedVariables false
namespace Cal
open Go Go.RowKit

variable {P : Program} {w0 w : World} {S0 S : Nat → Prop} {own : List Nat} {N : Nat} {m cap : Id → Nat} {st : St} {a : Act}

mutual
theorem AV.free_mono {p q : Id → Prop} (hq : ∀ id, q id → p id) : ∀ v : AV, v.free p → v.free q
  | .t _, _ => trivial
  | .row id sz i n, h => by unfold AV.free at *; exact fun hx => h (hq id hx)
  | .ptr id i j, h => by unfold AV.free at *; exact fun hx => h (hq id hx)
  | .roptr _, _ => trivial
  | .agg cs, h => by unfold AV.free at *; exact AV.frees_mono hq cs h
  | .tup cs, h => by unfold AV.free at *; exact AV.frees_mono hq cs h
  | .bad, _ => trivial
theorem AV.frees_mono {p q : Id → Prop} (hq : ∀ id, q id → p id) : ∀ vs : List AV, AV.frees p vs → AV.frees q vs
  | [], _ => trivial
  | v :: vs, h => by unfold AV.frees at *; exact ⟨AV.free_mono hq v h.1, AV.frees_mono hq vs h.2⟩
end

theorem St.Free.mono {s : St} {p q : Id → Prop} (h : s.Free p) (hq : ∀ id, q id → p id) : s.Free q :=
  ⟨fun t => AV.free_mono hq _ (h.tm t), fun id cs hc => AV.frees_mono hq _ (h.var id cs hc), fun id hid => h.none id (hq id hid)⟩

theorem AV.frees_map_t (p : Id → Prop) : ∀ xs : List T, AV.frees p (xs.map .t)
  | [] => trivial
  | x :: xs => by simp only [List.map_cons]; unfold AV.frees; exact ⟨trivial, AV.frees_map_t p xs⟩
theorem AV.frees_vals (p : Id → Prop) : ∀ xs : List Value, AV.frees p (xs.map fun u => .t (.v u))
  | [] => trivial
  | x :: xs => by simp only [List.map_cons]; unfold AV.frees; exact ⟨trivial, AV.frees_vals p xs⟩

theorem cst_free (p : Id → Prop) (x : Value) : (cst x).free p := by
  unfold cst
  split
  · split
    · unfold AV.free; exact AV.frees_vals p _
    · trivial
  · split <;> trivial

theorem St.Free.ev {s : St} {p : Id → Prop} (h : s.Free p) (x : Operand) : (s.ev x).free p := by
  cases x with
  | tmp t => exact h.tm t
  | const v => exact cst_free p v
  | global g => trivial
  | func f => trivial

theorem AV.cells_free {p : Id → Prop} {v : AV} (h : v.free p) : AV.frees p v.cells := by
  cases v <;> first | (unfold AV.cells; unfold AV.free at h; exact h) | (unfold AV.cells AV.frees; exact ⟨h, trivial⟩)

theorem plain_single {u : Value} (h : plain u = true) : Single u := by
  cases u <;> first | (simp [plain] at h; done) | (exact ⟨(fun _ e => by cases e), (fun _ e => by cases e)⟩)

theorem Trep_single {x : T} {u : Value} (h : Trep w S x u) : Single u := by
  cases x with
  | v x =>
    unfold Trep at h
    rw [h.1]; exact plain_single h.2
  | sl es =>
    unfold Trep at h
    obtain ⟨A, n, c, rfl, _⟩ := h
    exact ⟨(fun _ e => by cases e), (fun _ e => by cases e)⟩

theorem one_single {v : AV} {u : Value} {ob : Id → Option Ob} (h : AVrep w S m cap ob v u) (h1 : v.one = true) : Single u := by
  cases v with
  | t x => unfold AVrep at h; exact Trep_single h
  | row id sz i n =>
    unfold AVrep at h
    obtain ⟨A, c, rfl, _⟩ := h
    exact ⟨(fun _ e => by cases e), (fun _ e => by cases e)⟩
  | ptr id i j =>
    unfold AVrep at h
    obtain ⟨ad, rfl, _⟩ := h
    exact ⟨(fun _ e => by cases e), (fun _ e => by cases e)⟩
  | _ => simp [AV.one] at h1

theorem cells_of_single {u : Value} (h : Single u) : u.cells = #[u] := by
  cases u <;> first | rfl | exact absurd rfl (h.1 _)

theorem all_single {ob : Id → Option Ob} : ∀ {vs : List AV} {us : List Value}, AVreps w S m cap ob vs us → vs.all AV.one = true → ∀ u ∈ us, Single u
  | [], us, h, _ => by unfold AVreps at h; subst h; simp
  | v :: vs, us, h, h1 => by
    unfold AVreps at h
    obtain ⟨u, us', rfl, h2, h3⟩ := h
    simp only [List.all_cons, Bool.and_eq_true] at h1
    intro x hx
    rcases List.mem_cons.1 hx with rfl | hx
    · exact one_single h2 h1.1
    · exact all_single h3 h1.2 x hx

/-- A value's cells stand for the abstract one's. -/
theorem cells_rep {v : AV} {u : Value} {ob : Id → Option Ob} (h : AVrep w S m cap ob v u) (h1 : v.cells.all AV.one = true) : AVreps w S m cap ob v.cells u.cells.toList ∧ ∀ x ∈ u.cells.toList, Single x := by
  have key : AVreps w S m cap ob v.cells u.cells.toList := by
    cases v with
    | agg cs =>
      unfold AVrep at h
      obtain ⟨us, rfl, h2⟩ := h
      exact h2
    | bad => simp [AV.cells, AV.one] at h1
    | roptr cs => simp [AV.cells, AV.one] at h1
    | tup cs => simp [AV.cells, AV.one] at h1
    | t x =>
      have hs := one_single h rfl
      rw [cells_of_single hs]
      unfold AV.cells AVreps
      exact ⟨u, [], rfl, h, by simp [AVreps]⟩
    | row id sz i n =>
      have hs := one_single h rfl
      rw [cells_of_single hs]
      unfold AV.cells AVreps
      exact ⟨u, [], rfl, h, by simp [AVreps]⟩
    | ptr id i j =>
      have hs := one_single h rfl
      rw [cells_of_single hs]
      unfold AV.cells AVreps
      exact ⟨u, [], rfl, h, by simp [AVreps]⟩
  exact ⟨key, all_single key h1⟩

theorem upd_same (f : Id → Nat) (id : Id) (n : Nat) : upd f id n id = n := by simp [upd]

/-- A new variable. -/
theorem RelAt.newVar (h : RelAt w0 S0 own N m cap S st a w) {d : Nat} (hf : st.Free (·.1 = d)) {cs : List AV} {arr : Array Value} {ty : TypeId} (hr : AVreps w S m cap st.ob cs arr.toList) (hcf : AV.frees (·.1 = d) cs) :
    RelAt w0 S0 own N (upd m (d, 0) w.heap.size) (upd cap (d, 0) 0) S (st.setOb (d, 0) (some (.var cs))) a (w.alloc (.cells arr ty)) ∧
    AVrep (w.alloc (.cells arr ty)) S (upd m (d, 0) w.heap.size) (upd cap (d, 0) 0) (st.setOb (d, 0) (some (.var cs))).ob (.ptr (d, 0) 0 0) (.pointer (some ⟨w.heap.size, 0, none⟩)) := by
  have hf1 : st.Free (· = (d, 0)) := hf.mono fun id hid => by rw [hid]
  have hsame : Same S w (w.alloc (.cells arr ty)) := fun b hb => heap_alloc_old w _ (h.stab b hb)
  have hn := hf1.none _ rfl
  have ht : Turn (· = (d, 0)) m (upd m (d, 0) w.heap.size) cap (upd cap (d, 0) 0) st.ob (st.setOb (d, 0) (some (.var cs))).ob :=
    ⟨fun i hi => by simp only [St.setOb, if_neg hi]; exact Ob.leads_refl _, fun i hi => by simp [upd, hi]⟩
  constructor
  · refine h.new hf1 ⟨⟨arr, ty, ?_, AVreps.keep hsame (fun _ hb => hb) ht cs _ (AV.frees_mono (fun id hid => by rw [hid]) cs hcf) hr⟩, ?_⟩
    · rw [upd_same]; exact MapKept.heap_alloc w _ |>.1
    · rw [upd_same]; exact fun hb => Nat.lt_irrefl _ (h.stab _ hb)
  · unfold AVrep
    refine ⟨_, rfl, fun cs' hc _ => by rw [upd_same], fun sz es hc _ => ?_⟩
    simp [St.setOb] at hc

/-- The model's operation gives this value and leaves that world. -/
def Gives (P : Program) (o : Oper) (a : Act) (w : World) (u : Value) (w' : World) : Prop := (execOp a.eval o).run P w = .ok (.value u) w' ∨ ((execOp a.eval o).run P w = .ok .skip w' ∧ u = undef)

/-- Blocks are kept, but for the new objects. -/
def Far (d : Nat) (m m' cap cap' : Id → Nat) : Prop := ∀ id : Id, id.1 ≠ d → m' id = m id ∧ cap' id = cap id
theorem Far.refl (d : Nat) (m cap : Id → Nat) : Far d m m cap cap := fun _ _ => ⟨rfl, rfl⟩
theorem Far.upd (d k g c : Nat) (m cap : Id → Nat) : Far d m (upd m (d, k) g) cap (upd cap (d, k) c) := fun id hid => by
  have : id ≠ (d, k) := fun e => hid (by rw [e])
  simp [Cal.upd, this]

theorem gives_box {o : Oper} {e : TypeId} {x : Operand} (ho : o.op = .box e x) (h : RelAt w0 S0 own N m cap S st a w) {d : Nat} (hf : st.Free (·.1 = d)) (h1 : (st.ev x).cells.all AV.one = true) :
    ∃ u w' m' cap', Gives P o a w u w' ∧ RelAt w0 S0 own N m' cap' S (st.setOb (d, 0) (some (.var (st.ev x).cells))) a w' ∧ AVrep w' S m' cap' (st.setOb (d, 0) (some (.var (st.ev x).cells))).ob (.ptr (d, 0) 0 0) u ∧ Far d m m' cap cap' := by
  obtain ⟨hr, _⟩ := cells_rep (h.ev x) h1
  obtain ⟨k1, k2⟩ := h.newVar (ty := e) hf hr (AV.cells_free (hf.ev x))
  exact ⟨_, _, _, _, .inl (by simp [execOp, ho, Instr.box, newVar, newRow, newObj, Sem.run]), k1, k2, Far.upd _ _ _ _ _ _⟩

theorem gives_alloc {o : Oper} {t : TypeId} (ho : o.op = .alloc t) (h : RelAt w0 S0 own N m cap S st a w) {d : Nat} (hf : st.Free (·.1 = d)) {i : TI} (ht : tinf P t = some i) (hp : i.zero.all plain = true) :
    ∃ u w' m' cap', Gives P o a w u w' ∧ RelAt w0 S0 own N m' cap' S (st.setOb (d, 0) (some (.var (i.zero.map fun x => .t (.v x))))) a w' ∧ AVrep w' S m' cap' (st.setOb (d, 0) (some (.var (i.zero.map fun x => .t (.v x))))).ob (.ptr (d, 0) 0 0) u ∧ Far d m m' cap cap' := by
  obtain ⟨z, hz1, hz2⟩ := runT_zeroValue ht w
  have hr : AVreps w S m cap st.ob (i.zero.map fun x => .t (.v x)) z.cells.toList := by
    rw [hz2]
    exact AVreps_plain fun x hx => List.all_eq_true.1 hp x hx
  obtain ⟨k1, k2⟩ := h.newVar (ty := t) hf hr (AV.frees_vals _ _)
  exact ⟨_, _, _, _, .inl (by simp [execOp, ho, Instr.alloc, hz1, newVar, newRow, newObj, Sem.run]), k1, k2, Far.upd _ _ _ _ _ _⟩

end Cal
