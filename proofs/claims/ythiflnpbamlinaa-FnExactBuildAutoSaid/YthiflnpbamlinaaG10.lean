/- A part of the proof: a calculus of our own over the model's code, and contracts of the program's functions. -/
import Derived.Orders
import Derived.Test.YthiflnpbamlinaaG8
/- A calculus of our own, twenty-first part: of what an operation depends. No program is named here. -/
set_option linter.unusedSimpArgs false
set_option linter.unusedVariables false
namespace Cal
open Go Go.RowKit

variable {P : Program} {st st2 : St} {p : Id → Prop}

/-- Does an operation look at objects? -/
def peeks : Op → Bool
  | .load .. => true
  | .store .. => true
  | .buildSlice .. => true
  | .convert .. => true
  | .lookup .. => true
  | .mapUpdate .. => true
  | .call { callee := .builtin .append, .. } => true
  | .call { callee := .value _, .. } => true
  | _ => false

/-- The states have the same objects, but for those that p has. -/
def Agree (p : Id → Prop) (st st2 : St) : Prop := ∀ id, ¬ p id → st.ob id = st2.ob id

theorem toT_congr (h : Agree p st st2) {v : AV} (hv : v.free p) : st.toT v = st2.toT v := by
  cases v with
  | row id sz i n =>
    unfold AV.free at hv
    simp only [St.toT, h id hv]
  | mp id =>
    unfold AV.free at hv
    simp only [St.toT, h id hv]
  | _ => rfl
theorem toTs_congr (h : Agree p st st2) : ∀ {vs : List AV}, AV.frees p vs → st.toTs vs = st2.toTs vs
  | [], _ => rfl
  | v :: vs, hv => by
    unfold AV.frees at hv
    unfold St.toTs
    rw [toT_congr h hv.1, toTs_congr h hv.2]
theorem frzEff_congr (h : Agree p st st2) {v : AV} (hv : v.free p) : st.frzEff v = st2.frzEff v := by
  cases v with
  | row id sz i n =>
    unfold AV.free at hv
    simp only [St.frzEff, h id hv]
  | mp id =>
    unfold AV.free at hv
    simp only [St.frzEff, h id hv]
  | _ => rfl
theorem frzEffs_congr (h : Agree p st st2) : ∀ {vs : List AV}, AV.frees p vs → st.frzEffs vs = st2.frzEffs vs
  | [], _ => rfl
  | v :: vs, hv => by
    unfold AV.frees at hv
    unfold St.frzEffs
    rw [frzEff_congr h hv.1, frzEffs_congr h hv.2]
theorem litA_congr (h : Agree p st st2) (hf : st.Free p) {size : Nat} : ∀ {ps : List (Nat × Operand)} {k : Nat}, (∀ q ∈ ps, st.ev q.2 = st2.ev q.2) → litA st size k ps = litA st2 size k ps
  | [], _, _ => rfl
  | (i, x) :: ps, k, he => by
    have hx := he (i, x) (by simp)
    simp only at hx
    have hc := AV.cells_free (hf.ev x)
    unfold litA
    rw [litA_congr h hf fun q hq => he q (by simp [hq])]
    rw [toTs_congr h hc, frzEffs_congr h hc, hx]
theorem fillA_congr {t : TypeId} : ∀ {ps : List (Nat × Operand)} {zero : List AV}, (∀ q ∈ ps, st.ev q.2 = st2.ev q.2) → fillA P t st zero ps = fillA P t st2 zero ps
  | [], _, _ => rfl
  | (i, x) :: ps, zero, he => by
    have hx := he (i, x) (by simp)
    simp only at hx
    unfold fillA
    rw [hx]
    split
    · split
      · exact fillA_congr fun q hq => he q (by simp [hq])
      · rfl
    · rfl
theorem loadA_congr (h : Agree p st st2) {ag : Bool} {size : Nat} {v : AV} (hv : v.free p) : loadA st ag size v = loadA st2 ag size v := by
  cases v with
  | ptr id i j =>
    unfold AV.free at hv
    simp only [loadA, h id hv]
  | _ => rfl
theorem storeA_congr (h : Agree p st st2) {size : Nat} {x v : AV} (hx : x.free p) (hv : v.free p) : storeA st size x v = storeA st2 size x v := by
  cases v with
  | ptr id i j =>
    unfold AV.free at hv
    simp only [storeA, h id hv, toTs_congr h (AV.cells_free hx), frzEffs_congr h (AV.cells_free hx)]
  | _ => rfl
theorem elemsA_congr (h : Agree p st st2) {size : Nat} {v : AV} (hv : v.free p) : elemsA st size v = elemsA st2 size v := by
  cases v with
  | row id sz i n =>
    unfold AV.free at hv
    simp only [elemsA, h id hv]
  | t x =>
    unfold elemsA
    split <;> first | rfl | (rename_i e; cases e)
  | _ => rfl
theorem appendA_congr (h : Agree p st st2) {d : Nat} {ti : TI} {v : AV} {es : List (List T)} (hv : v.free p) : appendA d st ti v es = appendA d st2 ti v es := by
  cases v with
  | row id sz i n =>
    unfold AV.free at hv
    cases i with
    | zero => simp only [appendA, h id hv]
    | succ i => simp only [appendA]
  | t x =>
    unfold appendA
    split
    · rfl
    · split <;> first | rfl | (rename_i e; cases e)
  | _ => rfl

theorem isBig_congr (h : Agree p st st2) {v : AV} (hv : v.free p) : isBig st v = isBig st2 v := by
  cases v with
  | row id sz i n =>
    unfold AV.free at hv
    simp only [isBig, h id hv]
  | _ => rfl
theorem elemsB_congr (h : Agree p st st2) {size : Nat} {v : AV} (hv : v.free p) : elemsB st size v = elemsB st2 size v := by
  have he := elemsA_congr h (size := size) hv
  cases v with
  | row id sz i n =>
    unfold AV.free at hv
    simp only [elemsB, h id hv, he]
  | _ => simp only [elemsB, he]
theorem appendB_congr (h : Agree p st st2) {d : Nat} {ti : TI} {v : AV} {es : List (List AV)} (hv : v.free p) : appendB d st ti v es = appendB d st2 ti v es := by
  cases v with
  | row id sz i n =>
    unfold AV.free at hv
    cases i with
    | zero => simp only [appendB, h id hv]
    | succ i => simp only [appendB]
  | t x =>
    unfold appendB
    split
    · rfl
    · split <;> first | rfl | (rename_i e; cases e)
  | _ => rfl
theorem appendS_congr (h : Agree p st st2) {d : Nat} {ti : TI} {x y : AV} (hx : x.free p) : appendS d st ti x y = appendS d st2 ti x y := by
  cases x with
  | row id sz i n =>
    unfold AV.free at hx
    cases i with
    | zero => simp only [appendS, h id hx]
    | succ i => simp only [appendS]
  | _ => rfl
theorem appendO_congr (h : Agree p st st2) {d : Nat} {ti : TI} {x y : AV} (hx : x.free p) (hy : y.free p) : appendO d st ti x y = appendO d st2 ti x y := by
  unfold appendO
  rw [isBig_congr h hx, isBig_congr h hy, elemsA_congr h hy, elemsB_congr h hy]
  simp only [show ∀ es, appendA d st ti x es = appendA d st2 ti x es from fun es => appendA_congr h hx, show ∀ es, appendB d st ti x es = appendB d st2 ti x es from fun es => appendB_congr h hx]
theorem litB_congr {size : Nat} : ∀ {ps : List (Nat × Operand)} {k : Nat}, (∀ q ∈ ps, st.ev q.2 = st2.ev q.2) → litB st size k ps = litB st2 size k ps
  | [], _, _ => rfl
  | (i, x) :: ps, k, he => by
    have hx := he (i, x) (by simp)
    simp only at hx
    unfold litB
    rw [litB_congr fun q hq => he q (by simp [hq]), hx]
theorem any_congr {α : Type} {f g : α → Bool} : ∀ {l : List α}, (∀ x ∈ l, f x = g x) → l.any f = l.any g
  | [], _ => rfl
  | x :: l, h => by
    rw [List.any_cons, List.any_cons, h x (by simp), any_congr fun y hy => h y (by simp [hy])]
theorem litRef_congr {ps : List (Nat × Operand)} (he : ∀ q ∈ ps, st.ev q.2 = st2.ev q.2) : litRef st ps = litRef st2 ps := by
  unfold litRef
  exact any_congr fun q hq => by rw [he q hq]
theorem lookA_congr (h : Agree p st st2) {mi : Option MI} {ok : Bool} {x k : AV} (hx : x.free p) : lookA st mi ok x k = lookA st2 mi ok x k := by
  cases x with
  | mp id =>
    unfold AV.free at hx
    simp only [lookA, h id hx]
  | t y =>
    unfold lookA
    cases mi with
    | none => rfl
    | some mi =>
      dsimp only
      cases keyA mi.kd k with
      | none => rfl
      | some key => dsimp only; split <;> first | rfl | (rename_i e; cases e)
  | _ => rfl
theorem mupA_congr (h : Agree p st st2) {mi : Option MI} {x k v : AV} (hx : x.free p) : mupA st mi x k v = mupA st2 mi x k v := by
  cases x with
  | mp id =>
    unfold AV.free at hx
    simp only [mupA, h id hx]
  | _ => rfl

theorem evOp_congr {d : Nat} {op : Op} (hx : ∀ x ∈ op.operands, st.ev x = st2.ev x) (hr : peeks op = true → Agree p st st2 ∧ st.Free p) : evOp P d st op = evOp P d st2 op := by
  cases op <;> simp only [Op.operands] at hx
  case move x => simp only [evOp, hx x (by simp)]
  case assign x => simp only [evOp, hx x (by simp)]
  case pick c a b => simp only [evOp, hx c (by simp), hx a (by simp), hx b (by simp)]
  case alloc t => rfl
  case box t x => simp only [evOp, hx x (by simp)]
  case build t ps =>
    simp only [evOp]
    simp only [show ∀ zero, fillA P t st zero ps.toList = fillA P t st2 zero ps.toList from fun zero => fillA_congr fun q hq => hx q.2 (by simp; exact ⟨q.1, by simpa using hq⟩)]
  case buildSlice t n ps =>
    simp only [evOp]
    obtain ⟨h1, h2⟩ := hr rfl
    have hq : ∀ q ∈ ps.toList, st.ev q.2 = st2.ev q.2 := fun q hq => hx q.2 (by simp; exact ⟨q.1, by simpa using hq⟩)
    simp only [show ∀ size, litA st size 0 ps.toList = litA st2 size 0 ps.toList from fun size => litA_congr h1 h2 hq, show ∀ size, litB st size 0 ps.toList = litB st2 size 0 ps.toList from fun size => litB_congr hq, litRef_congr hq]
  case makeSlice t x y => simp only [evOp, hx x (by simp), hx y (by simp)]
  case load t x =>
    obtain ⟨h1, h2⟩ := hr rfl
    have e := hx x (by simp)
    simp only [evOp, ← e]
    simp only [show ∀ ag size, loadA st ag size (st.ev x) = loadA st2 ag size (st.ev x) from fun ag size => loadA_congr h1 (h2.ev x)]
  case store t x y =>
    obtain ⟨h1, h2⟩ := hr rfl
    simp only [evOp, ← hx x (by simp), ← hx y (by simp)]
    simp only [show ∀ size, storeA st size (st.ev y) (st.ev x) = storeA st2 size (st.ev y) (st.ev x) from fun size => storeA_congr h1 (h2.ev y) (h2.ev x)]
  case nilCheck x => simp only [evOp, hx x (by simp)]
  case binOp op t x y t2 => simp only [evOp, hx x (by simp), hx y (by simp)]
  case unOp op t x => simp only [evOp, hx x (by simp)]
  case convert t t2 x =>
    obtain ⟨h1, h2⟩ := hr rfl
    simp only [evOp, ← hx x (by simp)]
    unfold convS
    rw [elemsA_congr h1 (h2.ev x)]
  case slice t x lo hi mx =>
    cases mx with
    | some _ => rfl
    | none =>
      cases lo <;> cases hi <;> simp only [evOp, Option.map_none, Option.map_some, hx x (by simp)]
      · rename_i y; rw [hx y (by simp)]
      · rename_i y; rw [hx y (by simp)]
      · rename_i y z; rw [hx y (by simp), hx z (by simp)]
  case fieldAddr t x f => simp only [evOp, hx x (by simp)]
  case field t x f => simp only [evOp, hx x (by simp)]
  case indexAddr t x ix => simp only [evOp, hx x (by simp), hx ix (by simp)]
  case index t x ix => simp only [evOp, hx x (by simp), hx ix (by simp)]
  case extract x i => simp only [evOp, hx x (by simp)]
  case makeMap t r => cases r <;> rfl
  case lookup t x k ok =>
    obtain ⟨h1, h2⟩ := hr rfl
    simp only [evOp, ← hx x (by simp), ← hx k (by simp)]
    exact lookA_congr h1 (h2.ev x)
  case mapUpdate t x k y =>
    obtain ⟨h1, h2⟩ := hr rfl
    simp only [evOp, ← hx x (by simp), ← hx k (by simp), ← hx y (by simp)]
    rw [mupA_congr h1 (h2.ev x)]
  case makeFunc f xs ys =>
    cases f with
    | func f =>
      simp only [evOp]
      rw [List.map_congr_left (l := xs.toList) (f := st.ev) (g := st2.ev) fun x hx' => hx x (by simp; exact .inl (by simpa using hx')), List.map_congr_left (l := ys.toList) (f := st.ev) (g := st2.ev) fun x hx' => hx x (by simp; exact .inr (by simpa using hx'))]
    | _ => rfl
  case makeInterface t x => simp only [evOp, hx x (by simp)]
  case typeAssert x t u b => cases b <;> simp only [evOp, hx x (by simp)]
  case call c =>
    obtain ⟨cl, xs, ts⟩ := c
    cases cl with
    | value f => rfl
    | invoke _ _ => rfl
    | builtin b =>
      simp only [Call.operands] at hx
      simp only [evOp]
      unfold callA
      split
      · rename_i x t h1 h2
        rw [hx x (by simp; rw [← Array.mem_toList_iff, h1]; simp)]
      · rename_i x y t t2 h1 h2
        obtain ⟨g1, g2⟩ := hr rfl
        have ex := hx x (by simp; rw [← Array.mem_toList_iff, h1]; simp)
        have ey := hx y (by simp; rw [← Array.mem_toList_iff, h1]; simp)
        rw [← ex, ← ey]
        simp only [show ∀ i, appendO d st i (st.ev x) (st.ev y) = appendO d st2 i (st.ev x) (st.ev y) from fun i => appendO_congr g1 (g2.ev x) (g2.ev y), show ∀ i, appendS d st i (st.ev x) (st.ev y) = appendS d st2 i (st.ev x) (st.ev y) from fun i => appendS_congr g1 (g2.ev x)]
      · rfl
  all_goals rfl

end Cal

/- A calculus of our own, twenty-second part: every operation of the evaluator is sound. No program is named here. -/
set_option linter.unusedSimpArgs false
set_option linter.unusedVariables false
namespace Cal
open Go Go.RowKit

variable {P : Program} {w0 w : World} {S0 S : Nat → Prop} {own : List Nat} {X : Nat → Value} {N : Nat} {m cap : Id → Nat} {st : St} {a : Act}

/-- Operations that make objects. -/
def mkr : Op → Bool
  | .alloc _ | .box .. | .buildSlice .. | .makeSlice .. | .makeMap .. => true
  | .call { callee := .builtin .append, .. } => true
  | _ => false

theorem gives_op {o : Oper} (h : RelAt w0 S0 own X N m cap S st a w) {d : Nat} (hf : mkr o.op = true → st.Free (·.1 = d)) {v : AV} {f : Eff} (hv : evOp P d st o.op = some (v, f)) :
    ∃ u w' m' cap' S', Gives P o a w u w' ∧ RelAt w0 S0 own X N m' cap' S' (st.eff f) a w' ∧ AVrep w' S' m' cap' (st.eff f).ob v u ∧ Far d m m' cap cap' := by
  have ofStill : (∃ u, Still P o a w u ∧ AVrep w S m cap st.ob v u ∧ f = []) → ∃ u w' m' cap' S', Gives P o a w u w' ∧ RelAt w0 S0 own X N m' cap' S' (st.eff f) a w' ∧ AVrep w' S' m' cap' (st.eff f).ob v u ∧ Far d m m' cap cap' := by
    rintro ⟨u, h1, h2, rfl⟩
    exact ⟨u, w, m, cap, S, .inl h1, h, h2, Far.refl _ _ _⟩
  have ofGives : (∃ u w' m' cap', Gives P o a w u w' ∧ RelAt w0 S0 own X N m' cap' S (st.eff f) a w' ∧ AVrep w' S m' cap' (st.eff f).ob v u ∧ Far d m m' cap cap') → ∃ u w' m' cap' S', Gives P o a w u w' ∧ RelAt w0 S0 own X N m' cap' S' (st.eff f) a w' ∧ AVrep w' S' m' cap' (st.eff f).ob v u ∧ Far d m m' cap cap' := by
    rintro ⟨u, w', m', cap', h1, h2, h3, h4⟩
    exact ⟨u, w', m', cap', S, h1, h2, h3, h4⟩
  generalize hop : o.op = op at hv hf
  unfold evOp at hv
  split at hv
  · rename_i x
    cases hv
    exact ofStill ⟨_, still_move (.inl hop), h.ev x, rfl⟩
  · rename_i x
    cases hv
    exact ofStill ⟨_, still_move (.inr hop), h.ev x, rfl⟩
  · exact ofStill (still_pick hop h hv)
  · rename_i t
    cases hi : tinf P t with
    | none => simp [hi] at hv
    | some i =>
      simp only [hi, Option.bind_some] at hv
      split at hv
      · rename_i hp
        cases hv
        exact ofGives (gives_alloc hop h (hf rfl) hi hp)
      · cases hv
  · split at hv
    · rename_i h1
      cases hv
      exact ofGives (gives_box hop h (hf rfl) h1)
    · cases hv
  · rename_i t parts
    cases hi : tinf P t with
    | none => simp [hi] at hv
    | some i =>
      simp only [hi, Option.bind_some] at hv
      split at hv
      · rename_i hc
        cases hcs : fillA P t st (i.zero.map fun x => .t (.v x)) parts.toList with
        | none => simp [hcs] at hv
        | some cs =>
          simp only [hcs, Option.map_some, Option.some.injEq, Prod.mk.injEq] at hv
          obtain ⟨rfl, rfl⟩ := hv
          obtain ⟨u, h1, h2⟩ := still_build hop h hi hc.1 hc.2 hcs
          exact ofStill ⟨u, h1, h2, rfl⟩
      · cases hv
  · rename_i t len parts
    cases hi : elemOf P t with
    | none => simp [hi] at hv
    | some ei =>
      simp only [hi, Option.bind_some] at hv
      split at hv
      · rename_i hc
        obtain ⟨c1, c2, c3⟩ := hc
        have hm0 : len ≤ maxLen := by
          obtain ⟨f1, f2, f3⟩ := fine_inv (i := ei.2) (by rw [c1]; decide)
          have := Nat.mul_le_mul_left len f2
          unfold maxLen
          omega
        split at hv
        · cases hcs : litB st ei.2.size 0 parts.toList with
          | none => simp [hcs] at hv
          | some r =>
            simp only [hcs, Option.map_some, Option.some.injEq, Prod.mk.injEq] at hv
            obtain ⟨rfl, rfl⟩ := hv
            obtain ⟨f1, f2, f3⟩ := fine_inv (i := ei.2) (by rw [c1]; decide)
            exact ofGives (gives_buildSliceB (e := ei.1) (i := ei.2) hop h hi (hf rfl) c2 c3 f1 hm0 hcs)
        cases hcs : litA st ei.2.size 0 parts.toList with
        | none => simp [hcs] at hv
        | some r =>
          simp only [hcs, Option.map_some, Option.some.injEq, Prod.mk.injEq] at hv
          obtain ⟨rfl, rfl⟩ := hv
          obtain ⟨f1, f2, f3⟩ := fine_inv (i := ei.2) (by rw [c1]; decide)
          have hm : len ≤ maxLen := by
            have := Nat.mul_le_mul_left len f2
            unfold maxLen
            omega
          obtain ⟨u, w', m', cap', S', g1, g2, g3, g4⟩ := gives_buildSlice (e := ei.1) (i := ei.2) hop h hi (hf rfl) c2 c3 f1 hm (es := r.1) (f := r.2) (by rw [hcs])
          rw [eff_append]
          exact ⟨u, w', m', cap', S', g1, g2, g3, g4⟩
      · cases hv
  · exact ofGives (gives_makeSlice hop h (hf rfl) hv)
  · rename_i t x
    cases hi : tinf P t with
    | none => simp [hi] at hv
    | some i =>
      simp only [hi, Option.bind_some] at hv
      cases hc : loadA st i.agg i.size (st.ev x) with
      | none => simp [hc] at hv
      | some v' =>
        simp only [hc, Option.map_some, Option.some.injEq, Prod.mk.injEq] at hv
        obtain ⟨rfl, rfl⟩ := hv
        obtain ⟨u, h1, h2⟩ := still_load hop h hi hc
        exact ofStill ⟨u, h1, h2, rfl⟩
  · rename_i t x y
    cases hi : tinf P t with
    | none => simp [hi] at hv
    | some i =>
      simp only [hi, Option.bind_some] at hv
      cases hc : storeA st i.size (st.ev y) (st.ev x) with
      | none => simp [hc] at hv
      | some g =>
        simp only [hc, Option.map_some, Option.some.injEq, Prod.mk.injEq] at hv
        obtain ⟨rfl, rfl⟩ := hv
        obtain ⟨w', S', h1, h2⟩ := gives_store hop h hi hc
        exact ⟨undef, w', m, cap, S', h1, h2, by unfold AVrep; trivial, Far.refl _ _ _⟩
  · exact ofStill (still_nil hop h hv)
  · exact ofStill (still_binP hop h hv)
  · exact ofStill (still_un hop h hv)
  · split at hv
    · rename_i hs
      exact ofStill (still_conv hop (convK_src hs) h hv)
    · rename_i hs
      exact ofStill (still_convS hop hs h hv)
    · cases hv
  · obtain ⟨rfl, u, h1, h2⟩ := still_slice hop h hv
    exact ofStill ⟨u, h1, h2, rfl⟩
  · exact ofStill (still_fieldAddr hop h hv)
  · exact ofStill (still_field hop h hv)
  · exact ofStill (still_indexAddr hop h hv)
  · exact ofStill (still_index hop h hv)
  · exact ofStill (still_extract hop h hv)
  · rename_i t
    cases hi : minf P t with
    | none => simp [hi] at hv
    | some mi =>
      simp only [hi, Option.bind_some, Option.some.injEq, Prod.mk.injEq] at hv
      obtain ⟨rfl, rfl⟩ := hv
      exact ofGives (gives_makeMap hop h (hf rfl) mi.kd)
  · exact ofStill (still_lookup hop h hv)
  · rename_i t x k y
    cases hc : mupA st (minf P t) (st.ev x) (st.ev k) (st.ev y) with
    | none => simp [hc] at hv
    | some g =>
      simp only [hc, Option.map_some, Option.some.injEq, Prod.mk.injEq] at hv
      obtain ⟨rfl, rfl⟩ := hv
      obtain ⟨w', h1, h2⟩ := gives_mapUpdate hop h hc
      exact ⟨undef, w', m, cap, S, h1, h2, by unfold AVrep; trivial, Far.refl _ _ _⟩
  · cases hv
    obtain ⟨u, h1, h2⟩ := still_makeFunc hop h
    exact ofStill ⟨u, h1, h2, rfl⟩
  · split at hv
    · rename_i hs
      cases hv
      obtain ⟨u, h1, h2⟩ := still_makeInterface hop hs h
      exact ofStill ⟨u, h1, h2, rfl⟩
    · cases hv
  · rename_i x t u
    cases hc : assertA (solid (P.underlying u)) u (st.ev x) with
    | none => simp [hc] at hv
    | some y =>
      simp only [hc, Option.map_some, Option.some.injEq, Prod.mk.injEq] at hv
      obtain ⟨rfl, rfl⟩ := hv
      obtain ⟨r, h1, h2⟩ := still_typeAssert hop hc h
      exact ofStill ⟨r, h1, h2, rfl⟩
  · rename_i b xs ts
    unfold callA at hv
    split at hv
    · rename_i x t e1 e2
      have hx : xs = #[x] := Array.toList_inj.1 e1
      have ht : ts = #[t] := Array.toList_inj.1 e2
      subst hx ht
      cases hl : lenA (tkind P t) (st.ev x) with
      | none => simp [hl] at hv
      | some n =>
        simp only [hl, Option.map_some, Option.some.injEq, Prod.mk.injEq] at hv
        obtain ⟨rfl, rfl⟩ := hv
        obtain ⟨h1, h2⟩ := still_len hop h hl
        exact ofStill ⟨_, h1, h2, rfl⟩
    · rename_i x y t t2 e1 e2
      have hx : xs = #[x, y] := Array.toList_inj.1 e1
      have ht : ts = #[t, t2] := Array.toList_inj.1 e2
      subst hx ht
      split at hv
      · rename_i htt
        subst htt
        cases hi : elemOf P t with
        | none => simp [hi] at hv
        | some ei =>
          simp only [hi, Option.bind_some] at hv
          unfold appendO at hv
          split at hv
          · cases he : elemsB st ei.2.size (st.ev y) with
            | none => simp [he] at hv
            | some es =>
              simp only [he, Option.bind_some] at hv
              exact ofGives (gives_appendB hop h hi (hf rfl) he hv)
          · cases he : elemsA st ei.2.size (st.ev y) with
            | none => simp [he] at hv
            | some es =>
              simp only [he, Option.bind_some] at hv
              exact ofGives (gives_append hop h hi (hf rfl) he hv)
      · split at hv
        · rename_i hu
          cases hi : elemOf P t with
          | none => simp [hi] at hv
          | some ei =>
            simp only [hi, Option.bind_some] at hv
            refine ofGives (gives_appendS hop ?_ h hi (hf rfl) hv)
            unfold isStrT at hu
            split at hu
            · assumption
            · cases hu
        · cases hv
    · cases hv
  · cases hv

end Cal

/- A calculus of our own, twenty-third part: a call's arguments. No program is named here. -/
set_option linter.unusedSimpArgs false
set_option linter.unusedVariables false
namespace Cal
open Go Go.RowKit

variable {P : Program} {w0 w : World} {S0 S : Nat → Prop} {own : List Nat} {X : Nat → Value} {N : Nat} {m cap : Id → Nat} {st : St} {a : Act}

/-- The blocks of the arguments that are handed over to be written. -/
def abOf (m cap : Id → Nat) : List AV → List Arg → List (Nat × Nat)
  | .row id _ _ _ :: vs, .mrow .. :: ags => (m id, cap id) :: abOf m cap vs ags
  | .ptr id _ _ :: vs, .mvar _ :: ags => (m id, 0) :: abOf m cap vs ags
  | _ :: vs, _ :: ags => abOf m cap vs ags
  | _, _ => []

theorem creps_cells {b : Nat} {arr : Array Value} {ty : TypeId} {cs : List T} (hb : w.heap[b]? = some (.cells arr ty (0, 0))) (hs : arr.size = cs.length) {ob : Id → Option Ob} :
    Creps w S b 0 cs ↔ AVreps w S m cap ob (cs.map .t) arr.toList := by
  rw [Creps_iff, AVreps_iff]
  have hcell : ∀ j, w.cell? ⟨b, 0 + j, none⟩ = arr[j]? := fun j => by
    unfold World.cell?
    simp only [hb, Nat.zero_add]
    cases arr[j]? <;> rfl
  constructor
  · intro h
    refine ⟨by simp [hs], fun j v u hj hu => ?_⟩
    rw [List.getElem?_map] at hj
    cases hc : cs[j]? with
    | none => simp [hc] at hj
    | some x =>
      simp [hc] at hj
      subst hj
      obtain ⟨u', h1, h2⟩ := h j x hc
      rw [hcell j] at h1
      rw [Array.getElem?_toList, h1] at hu
      cases hu
      unfold AVrep
      exact h2
  · rintro ⟨h1, h2⟩ j x hj
    have hjl := (List.getElem?_eq_some_iff.1 hj).1
    obtain ⟨u, hu⟩ : ∃ u, arr[j]? = some u := ⟨_, Array.getElem?_eq_getElem (by omega)⟩
    refine ⟨u, by rw [hcell j]; exact hu, ?_⟩
    have := h2 j (.t x) u (by rw [List.getElem?_map, hj]; rfl) (by rw [Array.getElem?_toList]; exact hu)
    unfold AVrep at this
    exact this

theorem toTs_one {s : St} {v : AV} {x : T} (h : s.toT v = some x) : s.toTs [v] = some [x] := by simp [St.toTs, h]

theorem nm_sub {id : Id} {vs ws : List AV} (h : ∀ x ∈ vs, x ∈ ws) (k : (∃ sz i n, AV.row id sz i n ∈ vs) ∨ AV.mp id ∈ vs) : (∃ sz i n, AV.row id sz i n ∈ ws) ∨ AV.mp id ∈ ws := by
  rcases k with ⟨sz, i, n, k⟩ | k
  · exact .inl ⟨sz, i, n, h _ k⟩
  · exact .inr (h _ k)

/-- The arguments lie ags the contract asks. st1: what is read has been frozen. -/
theorem args_rep (h0 : RelAt w0 S0 own X N m cap S st a w) {S1 : Nat → Prop} {st1 : St} (h1 : RelAt w0 S0 own X N m cap S1 st1 a w) (hz : Froze st st1) :
    ∀ (vs : List AV) (us : List Value) (ags : List Arg), AVreps w S1 m cap st1.ob vs us → st.args vs ags → (∀ id, (∃ sz i n, AV.row id sz i n ∈ valsOf vs ags) ∨ AV.mp id ∈ valsOf vs ags → S1 (m id)) → (∀ id ∈ mutsOf vs ags, st1.ob id = st.ob id) →
      ArgsRep w S1 ags us (abOf m cap vs ags) ∧ (abOf m cap vs ags).map (·.1) = (mutsOf vs ags).map m ∧ ∀ id ∈ mutsOf vs ags, st.ob id ≠ none
  | [], us, [], hu, _, _, _ => by unfold AVreps at hu; subst hu; simp [ArgsRep, abOf, mutsOf]
  | [], _, _ :: _, _, h, _, _ => h.elim
  | _ :: _, _, [], _, h, _, _ => h.elim
  | v :: vs, us0, b :: ags, hu, h, hv, hm => by
    unfold AVreps at hu
    obtain ⟨u, us, rfl, hx, hus⟩ := hu
    unfold St.args at h
    obtain ⟨hb, hr⟩ := h
    cases b with
    | val y =>
      unfold St.arg at hb
      have hvs : valsOf (v :: vs) (Arg.val y :: ags) = v :: valsOf vs ags := by simp [valsOf]
      have hms : mutsOf (v :: vs) (Arg.val y :: ags) = mutsOf vs ags := by cases v <;> simp [mutsOf]
      have hab : abOf m cap (v :: vs) (Arg.val y :: ags) = abOf m cap vs ags := by cases v <;> simp [abOf]
      rw [hvs] at hv
      rw [hms] at hm
      rw [hms, hab]
      obtain ⟨g1, g2, g3⟩ := args_rep h0 h1 hz vs us ags hus hr (fun id hmem => hv id (nm_sub (fun x hx => by simp [hx]) hmem)) hm
      refine ⟨?_, g2, g3⟩
      unfold ArgsRep
      refine ⟨u, us, [], _, rfl, rfl, ?_, g1⟩
      unfold ArgRep
      refine ⟨rfl, ?_⟩
      have ht : Treps w S1 [y] [u] := toTs_rep h1 hz (toTs_one hb) (by unfold AVreps; exact ⟨_, _, rfl, hx, by unfold AVreps; rfl⟩) fun id hmem => hv id (nm_sub (fun x hx => by simp at hx; simp [hx]) hmem)
      unfold Treps at ht
      exact ht.1
    | agg ys =>
      unfold St.arg at hb
      obtain ⟨cs, hb1, hb2⟩ := hb
      have hvs : valsOf (v :: vs) (Arg.agg ys :: ags) = cs ++ valsOf vs ags := by simp [valsOf, hb1]
      have hms : mutsOf (v :: vs) (Arg.agg ys :: ags) = mutsOf vs ags := by rw [hb1]; simp [mutsOf]
      have hab : abOf m cap (v :: vs) (Arg.agg ys :: ags) = abOf m cap vs ags := by rw [hb1]; simp [abOf]
      rw [hvs] at hv
      rw [hms] at hm
      rw [hms, hab]
      obtain ⟨g1, g2, g3⟩ := args_rep h0 h1 hz vs us ags hus hr (fun id hmem => hv id (nm_sub (fun x hx => by simp [hx]) hmem)) hm
      refine ⟨?_, g2, g3⟩
      unfold ArgsRep
      refine ⟨u, us, [], _, rfl, rfl, ?_, g1⟩
      unfold ArgRep
      refine ⟨rfl, ?_⟩
      rw [hb1] at hx
      unfold AVrep at hx
      obtain ⟨us, hu1, hu2⟩ := hx
      exact ⟨us, hu1, toTs_rep h1 hz hb2 hu2 fun id hmem => hv id (nm_sub (fun x hx => by simp [hx]) hmem)⟩
    | mrow sz es =>
      unfold St.arg at hb
      obtain ⟨id, hb1, hb2⟩ := hb
      rw [hb1] at hx hv hm ⊢
      simp only [valsOf] at hv
      simp only [mutsOf, List.mem_cons, forall_eq_or_imp] at hm
      obtain ⟨g1, g2, g3⟩ := args_rep h0 h1 hz vs us ags hus hr hv hm.2
      have ho1 : st1.ob id = some (.row sz es) := by rw [hm.1, hb2]
      refine ⟨?_, by simp only [abOf, mutsOf, List.map_cons, g2], by simp only [mutsOf, List.mem_cons, forall_eq_or_imp]; exact ⟨by rw [hb2]; simp, g3⟩⟩
      unfold ArgsRep
      refine ⟨u, us, [(m id, cap id)], abOf m cap vs ags, rfl, by simp [abOf], ?_, g1⟩
      unfold ArgRep
      obtain ⟨k1, k2⟩ := h1.obs id _ ho1
      unfold AVrep at hx
      obtain ⟨A, c, x1, x2, x3, x4, _, x5⟩ := hx
      obtain ⟨_, _, _, _, x9⟩ := x5 sz es.length (by rw [ho1]; rfl)
      obtain ⟨rfl, rfl⟩ := x9 rfl
      exact ⟨m id, cap id, rfl, x1, k1, k2⟩
    | mvar cs =>
      unfold St.arg at hb
      obtain ⟨id, hb1, hb2⟩ := hb
      rw [hb1] at hx hv hm ⊢
      simp only [valsOf] at hv
      simp only [mutsOf, List.mem_cons, forall_eq_or_imp] at hm
      obtain ⟨g1, g2, g3⟩ := args_rep h0 h1 hz vs us ags hus hr hv hm.2
      have ho1 : st1.ob id = some (.var (cs.map .t)) := by rw [hm.1, hb2]
      refine ⟨?_, by simp only [abOf, mutsOf, List.map_cons, g2], by simp only [mutsOf, List.mem_cons, forall_eq_or_imp]; exact ⟨by rw [hb2]; simp, g3⟩⟩
      unfold ArgsRep
      refine ⟨u, us, [(m id, 0)], abOf m cap vs ags, rfl, by simp [abOf], ?_, g1⟩
      unfold ArgRep
      obtain ⟨⟨arr, ty, k1, k2⟩, k3⟩ := h1.obs id _ ho1
      unfold AVrep at hx
      obtain ⟨ad, x1, x2, _⟩ := hx
      have hsz : arr.size = cs.length := by rw [← Array.length_toList, k2.len, List.length_map]
      exact ⟨m id, rfl, by rw [x1, x2 _ ho1 rfl], ⟨⟨arr, ty, k1, hsz⟩, (creps_cells k1 hsz).2 k2⟩, k3⟩

end Cal

/- A calculus of our own, twenty-fourth part: the objects behind a call. No program is named here. -/
set_option linter.unusedSimpArgs false
set_option linter.unusedVariables false
namespace Cal
open Go Go.RowKit

variable {P : Program} {w0 w : World} {S0 S : Nat → Prop} {own : List Nat} {X : Nat → Value} {N : Nat} {m cap : Id → Nat} {st : St} {a : Act}

theorem eff_not {id : Id} : ∀ {f : Eff} {s : St}, id ∉ f.map (·.1) → (s.eff f).ob id = s.ob id
  | [], s, _ => rfl
  | (i, o) :: f, s, h => by
    simp only [List.map_cons, List.mem_cons, not_or] at h
    simp only [St.eff]
    rw [eff_not h.2]
    simp [St.setOb, h.1]

theorem eff_mem {id : Id} {o : Option Ob} : ∀ {f : Eff} {s : St}, (f.map (·.1)).Nodup → (id, o) ∈ f → (s.eff f).ob id = o
  | [], s, _, h => by simp at h
  | (i, o') :: f, s, hn, h => by
    simp only [List.map_cons, List.nodup_cons] at hn
    simp only [St.eff]
    rcases List.mem_cons.1 h with h | h
    · cases h
      rw [eff_not hn.1]
      simp [St.setOb]
    · exact eff_mem hn.2 h

theorem eff_tm : ∀ {f : Eff} {s : St}, (s.eff f).tm = s.tm
  | [], s => rfl
  | (i, o) :: f, s => by simp only [St.eff]; rw [eff_tm]; rfl
theorem eff_gh : ∀ {f : Eff} {s : St}, (s.eff f).gh = s.gh
  | [], s => rfl
  | (i, o) :: f, s => by simp only [St.eff]; rw [eff_gh]; rfl

/-- The tables stand, whatever is written that is ours. -/
theorem RelAt.fixed (h : RelAt w0 S0 own X N m cap S st a w) {bl : List Nat} (hbl : ∀ b ∈ bl, w0.heap.size ≤ b ∨ b ∈ own) : Fixed bl w := fun p hp => by
  obtain ⟨⟨t, z, h1⟩, h2⟩ := h.after.fix p hp
  have hlt : p.1 < w0.heap.size := (Array.getElem?_eq_some_iff.1 h1).1
  refine ⟨⟨t, z, (h.after.block _ hlt h2).trans h1⟩, fun hm => ?_⟩
  rcases hbl _ hm with h3 | h3
  · omega
  · exact h2 h3

/-- A call is behind us: the blocks of bl have been written, nothing else. -/
theorem RelAt.called {w' : World} (h : RelAt w0 S0 own X N m cap S st a w) {bl : List Nat} (ha : After bl w w') (hbl : ∀ b ∈ bl, w0.heap.size ≤ b ∨ b ∈ own) {S' : Nat → Prop} (hS : ∀ b, S b → S' b)
    (hS' : ∀ b, S' b → b < w'.heap.size ∧ (S b ∨ w.heap.size ≤ b ∨ b ∈ bl)) (hn : ∀ b ∈ bl, ¬ S b) {st' : St} (htm : st'.tm = st.tm) (hgh : st'.gh = st.gh)
    (hob : ∀ id, (st'.ob id = st.ob id ∧ (st.ob id ≠ none → m id ∉ bl)) ∨ (m id ∈ bl ∧ st.ob id ≠ none ∧ Ob.leads (st.ob id) (st'.ob id) ∧ ∀ o, st'.ob id = some o → ObRep w' S' m cap st'.ob id o)) :
    RelAt w0 S0 own X N m cap S' st' a w' := by
  have hsame : Same S w w' := fun b hb => ha.block b (h.stab b hb) fun hm => hn b hm hb
  have ht : Turn (fun _ => False) m m cap cap st.ob st'.ob := by
    refine ⟨fun i _ => ?_, fun i _ => ⟨rfl, rfl⟩⟩
    rcases hob i with ⟨e, _⟩ | ⟨_, _, e, _⟩
    · rw [e]; exact Ob.leads_refl _
    · exact e
  have hlive : ∀ i, st'.ob i ≠ none → st.ob i ≠ none := fun i hi => by
    rcases hob i with ⟨e, _⟩ | ⟨_, e, _⟩
    · rwa [e] at hi
    · exact e
  refine ⟨h.size, h.defers, ⟨h.after.fix, ha.os.trans h.after.os, ha.tape.trans h.after.tape, ha.output.trans h.after.output, Nat.le_trans h.after.size ha.size, fun k hk hno => ?_⟩, fun b hb => (hS' b hb).1, fun b hb => hS b (h.base b hb), fun b hb => ?_, fun i o hi => ?_, fun i o hi => ?_, fun i j hi hj he => h.inj i j (hlive i hi) (hlive j hj) he, fun t => ?_, fun t => ?_⟩
  · rw [ha.block k (Nat.lt_of_lt_of_le hk h.after.size) fun hm => ?_]
    · exact h.after.block k hk hno
    · rcases hbl k hm with hb | hb
      · omega
      · exact hno hb
  · rcases (hS' b hb).2 with hb | hb | hb
    · exact h.fresh b hb
    · exact .inr (.inl (Nat.le_trans h.after.size hb))
    · exact .inr (hbl b hb)
  · rcases hob i with ⟨e, e2⟩ | ⟨_, _, _, e⟩
    · have hi' : st.ob i = some o := by rw [← e]; exact hi
      have hni := e2 (by rw [hi']; simp)
      have hlt := (h.obs i o hi').lt
      have hblk := ha.block (m i) hlt hni
      exact (h.obs i o hi').keep hsame hS ht (fun hx => hx) (AV.frees_false _) hblk fun k3 hs => by
        rcases (hS' _ hs).2 with q | q | q
        · exact k3 q
        · omega
        · exact hni q
    · exact e o hi
  · obtain ⟨o2, h2⟩ := Option.ne_none_iff_exists'.1 (hlive i (by rw [hi]; simp))
    exact h.mine i o2 h2
  · rw [htm]
    exact AVrep.keep hsame hS ht _ _ (AV.free_false _) (h.tm t)
  · rw [hgh]
    exact AVrep.keep hsame hS ht _ _ (AV.free_false _) (h.gh t)

theorem outEff_ids : ∀ {vs : List AV} {ags : List Arg} {outs : List (Option Arg)}, st.args vs ags → Arg.like ags outs → (outEff vs ags outs).map (·.1) = mutsOf vs ags
  | [], [], outs, _, _ => by simp [outEff, mutsOf]
  | [], _ :: _, outs, h, _ => h.elim
  | _ :: _, [], outs, h, _ => h.elim
  | v :: vs, b :: ags, outs, h, hl => by
    unfold St.args at h
    obtain ⟨hb, hr⟩ := h
    cases b with
    | val y =>
      have := outEff_ids (outs := outs) hr (by cases outs <;> simpa [Arg.like] using hl)
      cases v <;> simp [outEff, mutsOf, this]
    | agg ys =>
      have := outEff_ids (outs := outs) hr (by cases outs <;> simpa [Arg.like] using hl)
      cases v <;> simp [outEff, mutsOf, this]
    | mrow sz es =>
      unfold St.arg at hb
      obtain ⟨id, rfl, hb2⟩ := hb
      cases outs with
      | nil => simp [Arg.like] at hl
      | cons o os =>
        cases o with
        | none =>
          have := outEff_ids (outs := os) hr (by simpa [Arg.like] using hl)
          simp [outEff, mutsOf, this]
        | some b' =>
          cases b' with
          | mrow sz' es' =>
            have := outEff_ids (outs := os) hr (by simp only [Arg.like] at hl; exact hl.2.2)
            simp [outEff, mutsOf, this]
          | _ => simp [Arg.like] at hl
    | mvar cs =>
      unfold St.arg at hb
      obtain ⟨id, rfl, hb2⟩ := hb
      cases outs with
      | nil => simp [Arg.like] at hl
      | cons o os =>
        cases o with
        | none =>
          have := outEff_ids (outs := os) hr (by simpa [Arg.like] using hl)
          simp [outEff, mutsOf, this]
        | some b' =>
          cases b' with
          | mvar cs' =>
            have := outEff_ids (outs := os) hr (by simp only [Arg.like] at hl; exact hl.2)
            simp [outEff, mutsOf, this]
          | _ => simp [Arg.like] at hl

/-- What the outs say, in memory. -/
theorem outEff_rep {w' : World} {S' : Nat → Prop} {ob' : Id → Option Ob} : ∀ {vs : List AV} {ags : List Arg} {outs : List (Option Arg)}, st.args vs ags → Arg.like ags outs → OutReps w' S' (abOf m cap vs ags) outs →
    ∀ e ∈ outEff vs ags outs, Ob.leads (st.ob e.1) e.2 ∧ ∀ o, e.2 = some o → ObRep w' S' m cap ob' e.1 o
  | [], [], outs, _, _, _ => by simp [outEff]
  | [], _ :: _, outs, h, _, _ => h.elim
  | _ :: _, [], outs, h, _, _ => h.elim
  | v :: vs, b :: ags, outs, h, hl, ho => by
    unfold St.args at h
    obtain ⟨hb, hr⟩ := h
    cases b with
    | val y =>
      have hab : abOf m cap (v :: vs) (Arg.val y :: ags) = abOf m cap vs ags := by cases v <;> simp [abOf]
      rw [hab] at ho
      have := outEff_rep (ob' := ob') (outs := outs) hr (by cases outs <;> simpa [Arg.like] using hl) ho
      have hoe : outEff (v :: vs) (Arg.val y :: ags) outs = outEff vs ags outs := by cases v <;> simp [outEff]
      rw [hoe]
      exact this
    | agg ys =>
      have hab : abOf m cap (v :: vs) (Arg.agg ys :: ags) = abOf m cap vs ags := by cases v <;> simp [abOf]
      rw [hab] at ho
      have := outEff_rep (ob' := ob') (outs := outs) hr (by cases outs <;> simpa [Arg.like] using hl) ho
      have hoe : outEff (v :: vs) (Arg.agg ys :: ags) outs = outEff vs ags outs := by cases v <;> simp [outEff]
      rw [hoe]
      exact this
    | mrow sz es =>
      unfold St.arg at hb
      obtain ⟨id, rfl, hb2⟩ := hb
      cases outs with
      | nil => simp [Arg.like] at hl
      | cons o os =>
        simp only [abOf] at ho
        unfold OutReps at ho
        obtain ⟨ho1, ho2⟩ := ho
        cases o with
        | none =>
          have := outEff_rep (ob' := ob') (outs := os) hr (by simpa [Arg.like] using hl) ho2
          intro e he
          simp only [outEff, List.mem_cons] at he
          rcases he with rfl | he
          · exact ⟨by rw [hb2]; trivial, fun o ho => by cases ho⟩
          · exact this e he
        | some b' =>
          cases b' with
          | mrow sz' es' =>
            simp only [Arg.like] at hl
            obtain ⟨rfl, hl2, hl3⟩ := hl
            have := outEff_rep (ob' := ob') (outs := os) hr hl3 ho2
            intro e he
            simp only [outEff, List.mem_cons] at he
            rcases he with rfl | he
            · refine ⟨by rw [hb2]; exact ⟨by simp [Ob.shape, hl2], fun h => h⟩, fun o ho => ?_⟩
              cases ho
              exact ho1
            · exact this e he
          | _ => simp [Arg.like] at hl
    | mvar cs =>
      unfold St.arg at hb
      obtain ⟨id, rfl, hb2⟩ := hb
      cases outs with
      | nil => simp [Arg.like] at hl
      | cons o os =>
        simp only [abOf] at ho
        unfold OutReps at ho
        obtain ⟨ho1, ho2⟩ := ho
        cases o with
        | none =>
          have := outEff_rep (ob' := ob') (outs := os) hr (by simpa [Arg.like] using hl) ho2
          intro e he
          simp only [outEff, List.mem_cons] at he
          rcases he with rfl | he
          · exact ⟨by rw [hb2]; trivial, fun o ho => by cases ho⟩
          · exact this e he
        | some b' =>
          cases b' with
          | mvar cs' =>
            simp only [Arg.like] at hl
            obtain ⟨hl2, hl3⟩ := hl
            have := outEff_rep (ob' := ob') (outs := os) hr hl3 ho2
            intro e he
            simp only [outEff, List.mem_cons] at he
            rcases he with rfl | he
            · refine ⟨by rw [hb2]; exact ⟨by simp [Ob.shape, hl2], fun h => h⟩, fun o ho => ?_⟩
              cases ho
              obtain ⟨⟨⟨arr, ty, k1, k2⟩, k3⟩, k4⟩ := ho1
              exact ⟨⟨arr, ty, k1, (creps_cells k1 k2).1 k3⟩, k4⟩
            · exact this e he
          | _ => simp [Arg.like] at hl

end Cal

/- A calculus of our own, twenty-fifth part: what a call returns. No program is named here. -/
set_option linter.unusedSimpArgs false
set_option linter.unusedVariables false
namespace Cal
open Go Go.RowKit

variable {P : Program} {w0 w : World} {S0 S : Nat → Prop} {own : List Nat} {X : Nat → Value} {N : Nat} {m cap : Id → Nat} {st : St} {a : Act} {d : Nat}

/-- The new objects' ids, from k on. -/
def from' (d k : Nat) : Id → Prop := fun id => id.1 = d ∧ k ≤ id.2

theorem Free.setOb {s : St} {p : Id → Prop} (h : s.Free p) {id : Id} (hp : ¬ p id) {o : Option Ob} (ho : ∀ x, o = some x → AV.frees p x.avs) : (s.setOb id o).Free p := by
  refine ⟨h.tm, h.gh, fun i x hi => ?_, fun i hi => ?_⟩
  · by_cases e : i = id
    · subst e
      simp only [St.setOb, if_true] at hi
      exact ho x hi
    · simp only [St.setOb, if_neg e] at hi
      exact h.avs i x hi
  · have e : i ≠ id := fun e => hp (e ▸ hi)
    simp only [St.setOb, if_neg e]
    exact h.none i hi

/-- What returning gives. -/
structure Ret (w : World) (w0 : World) (S0 : Nat → Prop) (own : List Nat) (X : Nat → Value) (N : Nat) (S : Nat → Prop) (m cap : Id → Nat) (st : St) (a : Act) (d k : Nat) (bs : List Nat) (m' cap' : Id → Nat) (st' : St) (k' : Nat) : Prop where
  rel : RelAt w0 S0 own X N m' cap' S st' a w
  le : k ≤ k'
  free : st'.Free (from' d k')
  old : ∀ id, ¬ from' d k id → m' id = m id ∧ cap' id = cap id ∧ st'.ob id = st.ob id
  tm : st'.tm = st.tm
  new : ∀ id, st'.ob id ≠ none → st.ob id ≠ none ∨ m' id ∈ bs

mutual
theorem ret_rep : ∀ (r : RV) {m cap : Id → Nat} {st : St} {k : Nat} {u : Value} {bs : List Nat}, RelAt w0 S0 own X N m cap S st a w → st.Free (from' d k) → RVrep w S r u bs → bs.Nodup →
    (∀ b ∈ bs, ¬ S b ∧ (w0.heap.size ≤ b ∨ b ∈ own) ∧ ∀ id, st.ob id ≠ none → m id ≠ b) →
    ∃ m' cap', Ret w w0 S0 own X N S m cap st a d k bs m' cap' (st.eff (retA d k r).2.1) (retA d k r).2.2 ∧ AVrep w S m' cap' (st.eff (retA d k r).2.1).ob (retA d k r).1 u ∧ (retA d k r).1.free (from' d (retA d k r).2.2)
  | .t x, m, cap, st, k, u, bs, h, hf, hr, hn, hb => by
    unfold RVrep at hr
    obtain ⟨rfl, hr⟩ := hr
    refine ⟨m, cap, ⟨h, Nat.le_refl _, hf, fun id _ => ⟨rfl, rfl, rfl⟩, rfl, fun id hid => .inl hid⟩, ?_, ?_⟩
    · simp only [retA]; unfold AVrep; exact hr
    · simp only [retA]; unfold AV.free; trivial
  | .own sz es, m, cap, st, k, u, bs, h, hf, hr, hn, hb => by
    unfold RVrep at hr
    obtain ⟨b, c, rfl, rfl, hr⟩ := hr
    obtain ⟨b1, b2, b3⟩ := hb b (by simp)
    have hf1 : st.Free (· = (d, k)) := hf.mono fun id hid => by subst hid; exact ⟨rfl, Nat.le_refl _⟩
    obtain ⟨hr1, hr2, hr3, hr4⟩ := hr
    have hrel := h.newAt (w' := w) hf1 (o := .row sz es) (g := b) (c := c) (fun i o' hi => b3 i (by rw [hi]; simp)) b1 b2 (fun _ _ _ => rfl) rfl rfl rfl (Nat.le_refl _) ⟨⟨by rw [upd_same, upd_same]; exact hr1, by rw [upd_same]; exact hr2, by rw [upd_same]; exact hr3, by rw [upd_same]; exact hr4⟩, by rw [upd_same]; exact b1⟩
    have hrow := AVrep_row (w := w) (S := S) (m := upd m (d, k) b) (cap := upd cap (d, k) c) (ob := (st.setOb (d, k) (some (.row sz es))).ob) (id := (d, k)) (sz := sz) (es := es) (by simp [St.setOb]) (by rw [upd_same]; exact hr2) (by rw [upd_same]; exact hr3)
    rw [upd_same, upd_same] at hrow
    refine ⟨upd m (d, k) b, upd cap (d, k) c, ⟨hrel, by simp only [retA]; omega, ?_, fun id hid => ?_, rfl, fun id hid => ?_⟩, hrow, ?_⟩
    · exact Free.setOb (hf.mono fun id hid => ⟨hid.1, by have := hid.2; simp only [retA] at this; omega⟩) (fun hid => by have := hid.2; simp only [retA] at this; omega) (fun x hx => by cases hx; trivial)
    · have e : id ≠ (d, k) := fun e => hid (by subst e; exact ⟨rfl, Nat.le_refl _⟩)
      simp [retA, upd, e, St.eff, St.setOb]
    · by_cases e : id = (d, k)
      · right; subst e; simp [upd]
      · left; simpa [retA, St.eff, St.setOb, e] using hid
    · simp only [retA]; unfold AV.free; exact fun hid => by have := hid.2; simp only at this; omega
  | .agg cs, m, cap, st, k, u, bs, h, hf, hr, hn, hb => by
    unfold RVrep at hr
    obtain ⟨us, rfl, hr⟩ := hr
    obtain ⟨m', cap', h1, h2, h3⟩ := rets_rep cs h hf hr hn hb
    refine ⟨m', cap', by simpa only [retA] using h1, ?_, ?_⟩
    · simp only [retA]; unfold AVrep; exact ⟨us, rfl, h2⟩
    · simp only [retA]; unfold AV.free; exact h3
  | .tup cs, m, cap, st, k, u, bs, h, hf, hr, hn, hb => by
    unfold RVrep at hr
    obtain ⟨us, rfl, hr⟩ := hr
    obtain ⟨m', cap', h1, h2, h3⟩ := rets_rep cs h hf hr hn hb
    refine ⟨m', cap', by simpa only [retA] using h1, ?_, ?_⟩
    · simp only [retA]; unfold AVrep; exact ⟨us, rfl, h2⟩
    · simp only [retA]; unfold AV.free; exact h3
  | .var cs, m, cap, st, k, u, bs, h, hf, hr, hn, hb => by
    unfold RVrep at hr
    obtain ⟨b, rfl, rfl, ⟨arr, ty, k1, k2⟩, k3⟩ := hr
    obtain ⟨b1, b2, b3⟩ := hb b (by simp)
    have hf1 : st.Free (· = (d, k)) := hf.mono fun id hid => by subst hid; exact ⟨rfl, Nat.le_refl _⟩
    have hrel := h.newAt (w' := w) hf1 (o := .var (cs.map .t)) (g := b) (c := 0) (fun i o' hi => b3 i (by rw [hi]; simp)) b1 b2 (fun _ _ _ => rfl) rfl rfl rfl (Nat.le_refl _) ⟨⟨arr, ty, by rw [upd_same]; exact k1, (creps_cells k1 k2).1 k3⟩, by rw [upd_same]; exact b1⟩
    refine ⟨upd m (d, k) b, upd cap (d, k) 0, ⟨hrel, by simp only [retA]; omega, ?_, fun id hid => ?_, rfl, fun id hid => ?_⟩, ?_, ?_⟩
    · exact Free.setOb (hf.mono fun id hid => ⟨hid.1, by have := hid.2; simp only [retA] at this; omega⟩) (fun hid => by have := hid.2; simp only [retA] at this; omega) (fun x hx => by cases hx; exact AV.frees_map_t _ _)
    · have e : id ≠ (d, k) := fun e => hid (by subst e; exact ⟨rfl, Nat.le_refl _⟩)
      simp [retA, upd, e, St.eff, St.setOb]
    · by_cases e : id = (d, k)
      · right; subst e; simp [upd]
      · left; simpa [retA, St.eff, St.setOb, e] using hid
    · simp only [retA]
      unfold AVrep
      refine ⟨_, rfl, fun cs' _ _ => by rw [upd_same], fun sz es hes => ?_⟩
      have ho : (st.eff [((d, k), some (Ob.var (cs.map .t)))]).ob (d, k) = some (.var (cs.map .t)) := by simp [St.eff, St.setOb]
      rw [ho] at hes
      cases hes
    · simp only [retA]; unfold AV.free; exact fun hid => by have := hid.2; simp only at this; omega
  | .map kd kvs, m, cap, st, k, u, bs, h, hf, hr, hn, hb => by
    unfold RVrep at hr
    obtain ⟨b, rfl, rfl, hr1, hr2⟩ := hr
    obtain ⟨b1, b2, b3⟩ := hb b (by simp)
    have hf1 : st.Free (· = (d, k)) := hf.mono fun id hid => by subst hid; exact ⟨rfl, Nat.le_refl _⟩
    have hk1 : ((kvs.map fun p => (p.1, AV.t (.v p.2))).map (·.1)) = kvs.map (·.1) := by rw [List.map_map]; rfl
    have hrel := h.newAt (w' := w) hf1 (o := .map kd (kvs.map fun p => (p.1, AV.t (.v p.2)))) (g := b) (c := 0) (fun i o' hi => b3 i (by rw [hi]; simp)) b1 b2 (fun _ _ _ => rfl) rfl rfl rfl (Nat.le_refl _) ⟨⟨kvs.map (·.2), by rw [upd_same, hk1]; exact hr1, vals_flat_rep hr2⟩, by rw [upd_same]; exact b1⟩
    refine ⟨upd m (d, k) b, upd cap (d, k) 0, ⟨hrel, by simp only [retA]; omega, ?_, fun id hid => ?_, rfl, fun id hid => ?_⟩, ?_, ?_⟩
    · refine Free.setOb (hf.mono fun id hid => ⟨hid.1, by have := hid.2; simp only [retA] at this; omega⟩) (fun hid => by have := hid.2; simp only [retA] at this; omega) (fun x hx => ?_)
      cases hx
      refine frees_mem fun v hv => ?_
      obtain ⟨q, hq, rfl⟩ := List.mem_map.1 hv
      obtain ⟨q', _, rfl⟩ := List.mem_map.1 hq
      trivial
    · have e : id ≠ (d, k) := fun e => hid (by subst e; exact ⟨rfl, Nat.le_refl _⟩)
      simp [retA, upd, e, St.eff, St.setOb]
    · by_cases e : id = (d, k)
      · right; subst e; simp [upd]
      · left; simpa [retA, St.eff, St.setOb, e] using hid
    · simp only [retA]
      unfold AVrep
      exact ⟨_, rfl, fun _ => by rw [upd_same]⟩
    · simp only [retA]; unfold AV.free; exact fun hid => by have := hid.2; simp only at this; omega
theorem rets_rep : ∀ (rs : List RV) {m cap : Id → Nat} {st : St} {k : Nat} {us : List Value} {bs : List Nat}, RelAt w0 S0 own X N m cap S st a w → st.Free (from' d k) → RVreps w S rs us bs → bs.Nodup →
    (∀ b ∈ bs, ¬ S b ∧ (w0.heap.size ≤ b ∨ b ∈ own) ∧ ∀ id, st.ob id ≠ none → m id ≠ b) →
    ∃ m' cap', Ret w w0 S0 own X N S m cap st a d k bs m' cap' (st.eff (retAs d k rs).2.1) (retAs d k rs).2.2 ∧ AVreps w S m' cap' (st.eff (retAs d k rs).2.1).ob (retAs d k rs).1 us ∧ AV.frees (from' d (retAs d k rs).2.2) (retAs d k rs).1
  | [], m, cap, st, k, us, bs, h, hf, hr, hn, hb => by
    unfold RVreps at hr
    obtain ⟨rfl, rfl⟩ := hr
    refine ⟨m, cap, ⟨h, Nat.le_refl _, hf, fun id _ => ⟨rfl, rfl, rfl⟩, rfl, fun id hid => .inl hid⟩, ?_, ?_⟩
    · simp only [retAs]; unfold AVreps; rfl
    · simp only [retAs]; unfold AV.frees; trivial
  | r :: rs, m, cap, st, k, us, bs, h, hf, hr, hn, hb => by
    unfold RVreps at hr
    obtain ⟨u, us', b1, b2, rfl, rfl, hr1, hr2⟩ := hr
    rw [List.nodup_append] at hn
    obtain ⟨n1, n2, n3⟩ := hn
    obtain ⟨m1, cap1, g1, g2, g3⟩ := ret_rep r h hf hr1 n1 fun b hb1 => hb b (by simp [hb1])
    obtain ⟨m2, cap2, q1, q2, q3⟩ := rets_rep rs g1.rel g1.free hr2 n2 fun b hb2 => by
      obtain ⟨e1, e2, e3⟩ := hb b (by simp [hb2])
      refine ⟨e1, e2, fun id hid he => ?_⟩
      rcases g1.new id hid with e | e
      · by_cases hfr : from' d k id
        · exact e (hf.none id hfr)
        · obtain ⟨e4, _, _⟩ := g1.old id hfr
          rw [e4] at he
          exact e3 id e he
      · exact n3 _ e _ hb2 he
    have heff : st.eff (retAs d k (r :: rs)).2.1 = (st.eff (retA d k r).2.1).eff (retAs d (retA d k r).2.2 rs).2.1 := by
      simp only [retAs]
      rw [eff_append]
    have hk2 : (retAs d k (r :: rs)).2.2 = (retAs d (retA d k r).2.2 rs).2.2 := by simp only [retAs]
    have hv2 : (retAs d k (r :: rs)).1 = (retA d k r).1 :: (retAs d (retA d k r).2.2 rs).1 := by simp only [retAs]
    have hmono : ∀ id, from' d (retA d k r).2.2 id → from' d k id := fun id hid => ⟨hid.1, Nat.le_trans g1.le hid.2⟩
    have hmono2 : ∀ id, from' d (retAs d (retA d k r).2.2 rs).2.2 id → from' d (retA d k r).2.2 id := fun id hid => ⟨hid.1, Nat.le_trans q1.le hid.2⟩
    refine ⟨m2, cap2, ?_, ?_, ?_⟩
    · rw [heff, hk2]
      refine ⟨q1.rel, Nat.le_trans g1.le q1.le, q1.free, fun id hid => ?_, q1.tm.trans g1.tm, fun id hid => ?_⟩
      · obtain ⟨e1, e2, e3⟩ := g1.old id hid
        obtain ⟨f1, f2, f3⟩ := q1.old id fun hh => hid (hmono id hh)
        exact ⟨f1.trans e1, f2.trans e2, f3.trans e3⟩
      · rcases q1.new id hid with e | e
        · rcases g1.new id e with e' | e'
          · exact .inl e'
          · right
            by_cases hfr : from' d (retA d k r).2.2 id
            · exact absurd (g1.free.none id hfr) e
            · obtain ⟨f1, _, _⟩ := q1.old id hfr
              rw [f1]
              simp [e']
        · right; simp [e]
    · rw [heff, hv2]
      unfold AVreps
      refine ⟨u, us', rfl, ?_, q2⟩
      refine AVrep.keep (p := from' d (retA d k r).2.2) (Same.refl _ _) (fun _ hb => hb) ⟨fun id hid => ?_, fun id hid => ?_⟩ _ _ g3 g2
      · obtain ⟨_, _, f3⟩ := q1.old id hid
        rw [f3]
        exact Ob.leads_refl _
      · obtain ⟨f1, f2, _⟩ := q1.old id hid
        exact ⟨f1, f2⟩
    · rw [hk2, hv2]
      unfold AV.frees
      exact ⟨AV.free_mono (fun id hid => hmono2 id hid) _ g3, q3⟩
end

end Cal

/- A calculus of our own, twenty-sixth part: a call of a Go function. No program is named here. -/
set_option linter.unusedSimpArgs false
set_option linter.unusedVariables false
namespace Cal
open Go Go.RowKit

variable {P : Program} {w0 w : World} {S0 S S2 : Nat → Prop} {own : List Nat} {X : Nat → Value} {N : Nat} {m cap : Id → Nat} {st : St} {a : Act} {d : Nat}

theorem run_call {o : Oper} {f : FuncId} {xs : Array Operand} {ts : Array TypeId} (hf : enters P f) (ho : o.op = .call ⟨.value (.func f), xs, ts⟩) : (execOp a.eval o).run P w = .ok (.enter f (xs.map a.eval)) w := by
  obtain ⟨fn, h1, h2, h3⟩ := hf
  have h4 : execOp a.eval o = callFunc f (#[] ++ xs.map a.eval ++ #[]) := by
    simp only [execOp, ho]
    rfl
  rw [h4]
  have h2' : ¬ fn.name = "runtime.NumGoroutine" := by simpa using h2
  have h3' : ¬ fn.body = none := fun e => by rw [e] at h3; cases h3
  simp [callFunc, go_sem, h1, h2', h3']

/-! ### what is flat needs no block that is not written -/
theorem Trep.flat {x : T} {u : Value} (hf : x.flat) (h : Trep w S x u) : Trep w S2 x u := by
  cases x with
  | v y => unfold Trep at *; exact h
  | sl es => exact hf.elim
  | mp kd kvs => exact hf.elim
theorem Creps.flat {b : Nat} {off : Nat} {xs : List T} (hf : ∀ x ∈ xs, T.flat x) (h : Creps w S b off xs) : Creps w S2 b off xs := by
  rw [Creps_iff] at *
  intro j x hx
  obtain ⟨u, h1, h2⟩ := h j x hx
  exact ⟨u, h1, h2.flat (hf x (List.mem_of_getElem? hx))⟩
theorem Ereps.flat {b : Nat} {off sz : Nat} {es : List (List T)} (hf : ∀ e ∈ es, ∀ x ∈ e, T.flat x) (h : Ereps w S b off sz es) : Ereps w S2 b off sz es := by
  rw [Ereps_iff] at *
  intro i e he
  obtain ⟨h1, h2⟩ := h i e he
  exact ⟨h1, h2.flat (hf e (List.mem_of_getElem? he))⟩
theorem OwnRow.flat {b sz c : Nat} {es : List (List T)} (hf : ∀ e ∈ es, ∀ x ∈ e, T.flat x) (h : OwnRow w S b sz es c) : OwnRow w S2 b sz es c :=
  ⟨h.1, h.2.1, h.2.2.1, h.2.2.2.flat hf⟩
mutual
theorem RVrep.flat : ∀ {r : RV} {u : Value} {bs : List Nat}, r.flat → RVrep w S r u bs → RVrep w S2 r u bs
  | .t x, u, bs, hf, h => by
    unfold RV.flat at hf
    unfold RVrep at *
    exact ⟨h.1, h.2.flat hf⟩
  | .own sz es, u, bs, hf, h => by
    unfold RV.flat at hf
    unfold RVrep at *
    obtain ⟨b, c, h1, h2, h3⟩ := h
    exact ⟨b, c, h1, h2, h3.flat hf⟩
  | .agg cs, u, bs, hf, h => by
    unfold RV.flat at hf
    unfold RVrep at *
    obtain ⟨us, h1, h2⟩ := h
    exact ⟨us, h1, RVreps.flat hf h2⟩
  | .tup cs, u, bs, hf, h => by
    unfold RV.flat at hf
    unfold RVrep at *
    obtain ⟨us, h1, h2⟩ := h
    exact ⟨us, h1, RVreps.flat hf h2⟩
  | .var cs, u, bs, hf, h => by
    unfold RV.flat at hf
    unfold RVrep at *
    obtain ⟨b, h1, h2, h3⟩ := h
    exact ⟨b, h1, h2, h3.1, h3.2.flat hf⟩
  | .map kd kvs, u, bs, hf, h => by
    unfold RVrep at *
    exact h
theorem RVreps.flat : ∀ {rs : List RV} {us : List Value} {bs : List Nat}, RV.flats rs → RVreps w S rs us bs → RVreps w S2 rs us bs
  | [], us, bs, hf, h => by
    unfold RVreps at *
    exact h
  | r :: rs, us, bs, hf, h => by
    unfold RV.flats at hf
    unfold RVreps at *
    obtain ⟨u, us', b1, b2, h1, h2, h3, h4⟩ := h
    exact ⟨u, us', b1, b2, h1, h2, RVrep.flat hf.1 h3, RVreps.flat hf.2 h4⟩
end
theorem OutReps.flat : ∀ {ab : List (Nat × Nat)} {outs : List (Option Arg)}, Arg.flats outs → (∀ b ∈ ab, ¬ S2 b.1) → OutReps w S ab outs → OutReps w S2 ab outs
  | [], [], _, _, _ => by unfold OutReps; trivial
  | [], _ :: _, _, _, h => by unfold OutReps at h; exact h.elim
  | _ :: _, [], _, _, h => by unfold OutReps at h; exact h.elim
  | b :: bs, o :: os, hf, hb, h => by
    unfold Arg.flats at hf
    unfold OutReps at *
    refine ⟨?_, OutReps.flat hf.2 (fun x hx => hb x (by simp [hx])) h.2⟩
    have h1 := h.1
    have hf1 := hf.1
    cases o with
    | none => trivial
    | some x =>
      cases x with
      | mrow sz es => exact ⟨h1.1.flat hf1, hb b (by simp)⟩
      | mvar cs => exact ⟨⟨h1.1.1, h1.1.2.flat hf1⟩, hb b (by simp)⟩
      | val _ => exact h1.elim
      | agg _ => exact h1.elim

/-- An object that lives behind the call is one of the outs. -/
theorem outEff_live : ∀ {vs : List AV} {ags : List Arg} {outs : List (Option Arg)}, st.args vs ags → Arg.like ags outs → ∀ id o, (id, some o) ∈ outEff vs ags outs → m id ∈ liveOuts (abOf m cap vs ags) outs
  | [], [], outs, _, _, id, o, h => by simp [outEff] at h
  | [], _ :: _, outs, h, _, _, _, _ => h.elim
  | _ :: _, [], outs, h, _, _, _, _ => h.elim
  | v :: vs, b :: ags, outs, h, hl, id, o, hm => by
    unfold St.args at h
    obtain ⟨hb, hr⟩ := h
    cases b with
    | val y =>
      have hab : abOf m cap (v :: vs) (Arg.val y :: ags) = abOf m cap vs ags := by cases v <;> simp [abOf]
      have hoe : outEff (v :: vs) (Arg.val y :: ags) outs = outEff vs ags outs := by cases v <;> simp [outEff]
      rw [hoe] at hm
      rw [hab]
      exact outEff_live hr (by cases outs <;> simpa [Arg.like] using hl) id o hm
    | agg ys =>
      have hab : abOf m cap (v :: vs) (Arg.agg ys :: ags) = abOf m cap vs ags := by cases v <;> simp [abOf]
      have hoe : outEff (v :: vs) (Arg.agg ys :: ags) outs = outEff vs ags outs := by cases v <;> simp [outEff]
      rw [hoe] at hm
      rw [hab]
      exact outEff_live hr (by cases outs <;> simpa [Arg.like] using hl) id o hm
    | mrow sz es =>
      unfold St.arg at hb
      obtain ⟨i, rfl, hb2⟩ := hb
      cases outs with
      | nil => simp [Arg.like] at hl
      | cons x os =>
        cases x with
        | none =>
          simp only [outEff, List.mem_cons] at hm
          rcases hm with hm | hm
          · cases hm
          · simp only [abOf, liveOuts]
            exact outEff_live hr (by simpa [Arg.like] using hl) id o hm
        | some b' =>
          cases b' with
          | mrow sz' es' =>
            simp only [outEff, List.mem_cons] at hm
            simp only [abOf, liveOuts, List.mem_cons]
            rcases hm with hm | hm
            · cases hm; exact .inl rfl
            · exact .inr (outEff_live hr (by simp only [Arg.like] at hl; exact hl.2.2) id o hm)
          | _ => simp [Arg.like] at hl
    | mvar cs =>
      unfold St.arg at hb
      obtain ⟨i, rfl, hb2⟩ := hb
      cases outs with
      | nil => simp [Arg.like] at hl
      | cons x os =>
        cases x with
        | none =>
          simp only [outEff, List.mem_cons] at hm
          rcases hm with hm | hm
          · cases hm
          · simp only [abOf, liveOuts]
            exact outEff_live hr (by simpa [Arg.like] using hl) id o hm
        | some b' =>
          cases b' with
          | mvar cs' =>
            simp only [outEff, List.mem_cons] at hm
            simp only [abOf, liveOuts, List.mem_cons]
            rcases hm with hm | hm
            · cases hm; exact .inl rfl
            · exact .inr (outEff_live hr (by simp only [Arg.like] at hl; exact hl.2) id o hm)
          | _ => simp [Arg.like] at hl

theorem like_args {vs : List AV} {ags : List Arg} : st.args vs ags → ∀ v ∈ valsOf vs ags, (st.toT v).isSome := by
  intro h v hv
  induction vs generalizing ags with
  | nil => cases ags <;> simp [valsOf] at hv
  | cons x vs ih =>
    cases ags with
    | nil => exact h.elim
    | cons b ags =>
      unfold St.args at h
      obtain ⟨hb, hr⟩ := h
      cases b with
      | val y =>
        unfold St.arg at hb
        have : valsOf (x :: vs) (Arg.val y :: ags) = x :: valsOf vs ags := by simp [valsOf]
        rw [this] at hv
        rcases List.mem_cons.1 hv with rfl | hv
        · simp [hb]
        · exact ih hr hv
      | agg ys =>
        unfold St.arg at hb
        obtain ⟨cs, rfl, hb2⟩ := hb
        simp only [valsOf, AV.cells, List.mem_append] at hv
        rcases hv with hv | hv
        · exact (toTs_some hb2).2.1 v hv
        · exact ih hr hv
      | mrow sz es => exact ih hr (by cases x <;> simpa [valsOf] using hv)
      | mvar cs => exact ih hr (by cases x <;> simpa [valsOf] using hv)

/-- The step of a call, up to the objects that come back. -/
theorem call_outs {Sb : Nat → Prop} {stb : St} {w' : World} {vs : List AV} {ags : List Arg} {outs : List (Option Arg)} (hb : RelAt w0 S0 own X N m cap Sb stb a w) (harg : st.args vs ags) (hlike : Arg.like ags outs) (hnd : (mutsOf vs ags).Nodup)
    (hsame : ∀ id ∈ mutsOf vs ags, stb.ob id = st.ob id) (hlive : ∀ id ∈ mutsOf vs ags, st.ob id ≠ none) (hlive2 : ∀ id, stb.ob id ≠ none → st.ob id ≠ none) (hinj : ∀ id id', st.ob id ≠ none → st.ob id' ≠ none → m id = m id' → id = id')
    (hab : (abOf m cap vs ags).map (·.1) = (mutsOf vs ags).map m) (hmine : ∀ id, st.ob id ≠ none → w0.heap.size ≤ m id ∨ m id ∈ own)
    (ha : After ((abOf m cap vs ags).map (·.1)) w w') {S2 : Nat → Prop} (hS : ∀ b, Sb b → S2 b) (hS' : ∀ b, S2 b → b < w'.heap.size ∧ (Sb b ∨ w.heap.size ≤ b ∨ b ∈ (abOf m cap vs ags).map (·.1)))
    (hn : ∀ b ∈ (abOf m cap vs ags).map (·.1), ¬ Sb b) (ho : OutReps w' S2 (abOf m cap vs ags) outs) : RelAt w0 S0 own X N m cap S2 (stb.eff (outEff vs ags outs)) a w' := by
  have hids := outEff_ids (st := st) (outs := outs) harg hlike
  refine hb.called ha (fun b hbm => ?_) hS hS' hn eff_tm eff_gh fun id => ?_
  · rw [hab] at hbm
    obtain ⟨i, hi, rfl⟩ := List.mem_map.1 hbm
    exact hmine i (hlive i hi)
  · by_cases hid : id ∈ mutsOf vs ags
    · right
      have hmem : id ∈ (outEff vs ags outs).map (·.1) := by rw [hids]; exact hid
      obtain ⟨⟨i, o⟩, he, rfl⟩ := List.mem_map.1 hmem
      have hval : (stb.eff (outEff vs ags outs)).ob i = o := eff_mem (by rw [hids]; exact hnd) he
      obtain ⟨g1, g2⟩ := outEff_rep (ob' := (stb.eff (outEff vs ags outs)).ob) (m := m) (cap := cap) harg hlike ho _ he
      refine ⟨by rw [hab]; exact List.mem_map.2 ⟨i, hid, rfl⟩, by rw [hsame i hid]; exact hlive i hid, by rw [hval, hsame i hid]; exact g1, fun o' ho' => ?_⟩
      rw [hval] at ho'
      exact g2 o' ho'
    · left
      refine ⟨eff_not (by rw [hids]; exact hid), fun hne hm => ?_⟩
      rw [hab] at hm
      obtain ⟨j, hj, hjm⟩ := List.mem_map.1 hm
      exact hid (hinj j id (hlive j hj) (hlive2 id hne) hjm ▸ hj)

theorem args_muts : ∀ {vs : List AV} {ags : List Arg}, st.args vs ags → ∀ id ∈ mutsOf vs ags, (∃ sz es, st.ob id = some (.row sz es)) ∨ ∃ cs, st.ob id = some (.var cs)
  | [], [], _, id, h => by simp [mutsOf] at h
  | [], _ :: _, h, _, _ => h.elim
  | _ :: _, [], h, _, _ => h.elim
  | v :: vs, b :: ags, h, id, hm => by
    unfold St.args at h
    obtain ⟨hb, hr⟩ := h
    cases b with
    | val y =>
      have hms : mutsOf (v :: vs) (Arg.val y :: ags) = mutsOf vs ags := by cases v <;> simp [mutsOf]
      rw [hms] at hm
      exact args_muts hr id hm
    | agg ys =>
      have hms : mutsOf (v :: vs) (Arg.agg ys :: ags) = mutsOf vs ags := by cases v <;> simp [mutsOf]
      rw [hms] at hm
      exact args_muts hr id hm
    | mrow sz es =>
      unfold St.arg at hb
      obtain ⟨i, rfl, hb2⟩ := hb
      simp only [mutsOf, List.mem_cons] at hm
      rcases hm with rfl | hm
      · exact .inl ⟨sz, es, hb2⟩
      · exact args_muts hr id hm
    | mvar cs =>
      unfold St.arg at hb
      obtain ⟨i, rfl, hb2⟩ := hb
      simp only [mutsOf, List.mem_cons] at hm
      rcases hm with rfl | hm
      · exact .inr ⟨_, hb2⟩
      · exact args_muts hr id hm

theorem Free.effs {p : Id → Prop} : ∀ {f : Eff} {s : St}, s.Free p → (∀ e ∈ f, ¬ p e.1) → (∀ e ∈ f, ∀ o, e.2 = some o → AV.frees p o.avs) → (s.eff f).Free p
  | [], s, h, _, _ => h
  | (id, o) :: f, s, h, h1, h2 => by
    simp only [St.eff]
    exact Free.effs (Free.setOb h (h1 (id, o) (by simp)) (fun cs hcs => h2 (id, o) (by simp) cs hcs)) (fun e he => h1 e (by simp [he])) (fun e he => h2 e (by simp [he]))

theorem outEff_free {p : Id → Prop} : ∀ {vs : List AV} {ags : List Arg} {outs : List (Option Arg)}, ∀ e ∈ outEff vs ags outs, ∀ x, e.2 = some x → AV.frees p x.avs
  | [], [], _, e, h, _, _ => by simp [outEff] at h
  | [], _ :: _, _, e, h, _, _ => by simp [outEff] at h
  | _ :: _, [], _, e, h, _, _ => by simp [outEff] at h
  | v :: vs, b :: ags, outs, e, h, cs, hcs => by
    have rest : e ∈ outEff vs ags outs → AV.frees p cs.avs := fun h => outEff_free e h cs hcs
    have rest2 : ∀ o os, outs = o :: os → e ∈ outEff vs ags os → AV.frees p cs.avs := fun o os _ h => outEff_free e h cs hcs
    cases v <;> cases b <;> first
      | exact rest (by simpa [outEff] using h)
      | (cases outs with
        | nil => exact rest (by simpa [outEff] using h)
        | cons o os =>
          simp only [outEff, List.mem_cons] at h
          rcases h with h | h
          · split at h <;> subst h <;> first
              | cases hcs; done
              | (simp only [Option.some.injEq] at hcs; subst hcs; first | exact AV.frees_map_t _ _ | trivial)
          · exact rest2 o os rfl h)

theorem evs_rep {S1 : Nat → Prop} {st1 : St} (h1 : RelAt w0 S0 own X N m cap S1 st1 a w) (hz : Froze st st1) : ∀ xs : List Operand, AVreps w S1 m cap st1.ob (xs.map st.ev) (xs.map a.eval)
  | [] => by simp only [List.map_nil]; unfold AVreps; rfl
  | x :: xs => by
    simp only [List.map_cons]
    unfold AVreps
    have hx := h1.ev x
    have hev : st1.ev x = st.ev x := by cases x <;> simp [St.ev, hz.1.1]
    rw [hev] at hx
    exact ⟨_, _, rfl, hx, evs_rep h1 hz xs⟩

theorem AVreps_append {ob : Id → Option Ob} : ∀ {xs ys : List AV} {us vs : List Value}, AVreps w S m cap ob xs us → AVreps w S m cap ob ys vs → AVreps w S m cap ob (xs ++ ys) (us ++ vs)
  | [], ys, us, vs, h, k => by
    unfold AVreps at h
    subst h
    exact k
  | x :: xs, ys, us, vs, h, k => by
    unfold AVreps at h
    obtain ⟨u, us', rfl, h1, h2⟩ := h
    simp only [List.cons_append]
    unfold AVreps
    exact ⟨u, us' ++ vs, rfl, h1, AVreps_append h2 k⟩

theorem flat_rep {ob : Id → Option Ob} : ∀ {sh : Shape} {vs : List AV} {us : List Value} {vsF : List AV}, AVreps w S m cap ob vs us → flatV sh vs = some vsF → ∃ usF, flatU sh us = some usF ∧ AVreps w S m cap ob vsF usF
  | [], [], us, vsF, hr, h => by
    unfold AVreps at hr
    subst hr
    simp only [flatV, Option.some.injEq] at h
    subst h
    exact ⟨[], rfl, by unfold AVreps; rfl⟩
  | [], _ :: _, _, _, _, h => by simp [flatV] at h
  | none :: _, [], _, _, _, h => by simp [flatV] at h
  | some _ :: _, [], _, _, _, h => by simp [flatV] at h
  | none :: sh, v :: vs, us, vsF, hr, h => by
    unfold AVreps at hr
    obtain ⟨u, us', rfl, h1, h2⟩ := hr
    simp only [flatV] at h
    cases hf : flatV sh vs with
    | none => rw [hf] at h; cases h
    | some l =>
      rw [hf] at h
      simp only [Option.map_some, Option.some.injEq] at h
      subst h
      obtain ⟨usF, g1, g2⟩ := flat_rep h2 hf
      refine ⟨u :: usF, by simp only [flatU, g1, Option.map_some], ?_⟩
      unfold AVreps
      exact ⟨u, usF, rfl, h1, g2⟩
  | some n :: sh, v :: vs, us, vsF, hr, h => by
    unfold AVreps at hr
    obtain ⟨u, us', rfl, h1, h2⟩ := hr
    cases v with
    | agg cs =>
      simp only [flatV] at h
      split at h
      · rename_i hn
        cases hf : flatV sh vs with
        | none => rw [hf] at h; cases h
        | some l =>
          rw [hf] at h
          simp only [Option.map_some, Option.some.injEq] at h
          subst h
          obtain ⟨usF, g1, g2⟩ := flat_rep h2 hf
          unfold AVrep at h1
          obtain ⟨ws, rfl, h1⟩ := h1
          have hl := h1.len
          refine ⟨ws ++ usF, ?_, AVreps_append h1 g2⟩
          simp only [flatU, List.size_toArray]
          rw [if_pos (by omega), g1]
          simp
      · cases h
    | _ => simp [flatV] at h

theorem toTss_some {s : St} : ∀ {es : List (List AV)} {xs : List (List T)}, s.toTss es = some xs → xs.length = es.length ∧ s.toTs es.flatten = some xs.flatten ∧ ∀ (j : Nat) (e : List AV), es[j]? = some e → ∃ x, xs[j]? = some x ∧ s.toTs e = some x
  | [], xs, h => by
    unfold St.toTss at h
    cases h
    exact ⟨rfl, rfl, by simp⟩
  | e :: es, xs, h => by
    unfold St.toTss at h
    split at h
    · rename_i x xs' h1 h2
      cases h
      obtain ⟨g1, g2, g3⟩ := toTss_some h2
      refine ⟨by simp [g1], ?_, fun j e' he' => ?_⟩
      · have app : ∀ (as' bs : List AV) (xs ys : List T), s.toTs as' = some xs → s.toTs bs = some ys → s.toTs (as' ++ bs) = some (xs ++ ys) := by
          intro as' bs
          induction as' with
          | nil => intro xs ys h1 h2; simp [St.toTs] at h1; subst h1; simpa using h2
          | cons v vs ih =>
            intro xs ys h1 h2
            unfold St.toTs at h1
            split at h1
            · rename_i a b e1 e2
              cases h1
              simp only [List.cons_append]
              unfold St.toTs
              rw [e1, ih _ _ e2 h2]
            · cases h1
        simp only [List.flatten_cons]
        exact app _ _ _ _ h1 g2
      · cases j with
        | zero => simp at he'; subst he'; exact ⟨x, rfl, h1⟩
        | succ j => exact g3 j e' (by simpa using he')
    · cases h


theorem argsR_muts : ∀ {vs : List AV} {ags : List Arg} {outs : List (Option Arg)}, st.argsR vs ags → mutsOf vs ags = [] ∧ outEff vs ags outs = []
  | [], [], _, _ => ⟨rfl, by simp [outEff]⟩
  | [], _ :: _, _, h => h.elim
  | _ :: _, [], _, h => h.elim
  | v :: vs, b :: ags, outs, h => by
    unfold St.argsR at h
    obtain ⟨e1, e2⟩ := argsR_muts (outs := outs) h.2
    cases b with
    | val x => cases v <;> exact ⟨by simpa only [mutsOf] using e1, by simpa only [outEff] using e2⟩
    | agg xs => cases v <;> exact ⟨by simpa only [mutsOf] using e1, by simpa only [outEff] using e2⟩
    | _ => exact h.1.elim

/-- Every own block may be read. -/
def AllS (S : Nat → Prop) (m : Id → Nat) (ob : Id → Option Ob) : Nat → Prop := fun b => S b ∨ ∃ id, ob id ≠ none ∧ m id = b

theorem toT_all (h : RelAt w0 S0 own X N m cap S st a w) {v : AV} {x : T} {u : Value} (hx : st.toT v = some x) (hu : AVrep w S m cap st.ob v u) : Trep w (AllS S m st.ob) x u := by
  have hsub : ∀ b, S b → AllS S m st.ob b := fun b hb => .inl hb
  unfold St.toT at hx
  split at hx
  · cases hx
    unfold AVrep at hu
    exact Trep.keep (Same.refl _ _) hsub _ _ hu
  · rename_i id sz i n
    have key : ∀ sz' es, (st.ob id = some (.row sz' es) ∨ st.ob id = some (.frz sz' es)) → Trep w (AllS S m st.ob) (.sl (window es i n)) u := by
      intro sz' es ho
      have hrow : OwnRow w S (m id) sz' es (cap id) := by
        rcases ho with ho | ho
        · exact (h.obs id _ ho).1
        · exact (h.obs id _ ho).1
      unfold AVrep at hu
      obtain ⟨A, c, h1, h2, h3, h4, _, h5⟩ := hu
      obtain ⟨rfl, g2, g3, g4, g5⟩ := h5 sz' es.length (by rcases ho with ho | ho <;> rw [ho] <;> rfl)
      unfold Trep
      refine ⟨A, n, c, h1, ?_, h2, h3, fun hn => ?_⟩
      · unfold window; rw [List.length_take, List.length_drop]; omega
      · refine ⟨m id, i * sz', sz', g4 (by omega), .inr ⟨id, by rcases ho with ho | ho <;> rw [ho] <;> simp, rfl⟩, ?_⟩
        unfold window
        have := (hrow.2.2.2.drop i).take n
        rw [Nat.zero_add] at this
        exact Ereps.keep (Same.refl _ _) hsub rfl _ _ _ this
    split at hx
    · rename_i ho; cases hx; exact key _ _ (.inl ho)
    · rename_i ho; cases hx; exact key _ _ (.inr ho)
    · cases hx
  · rename_i id
    unfold AVrep at hu
    obtain ⟨b, hu1, hu2⟩ := hu
    have key : ∀ kd r, ((∃ kvs, st.ob id = some (.map kd kvs) ∧ flatVals kvs = some r) ∨ st.ob id = some (.fmap kd r)) → Trep w (AllS S m st.ob) (.mp kd r) u := by
      intro kd r ho
      obtain ⟨g1, g2⟩ := map_flat_rep h ho
      have hl : st.ob id ≠ none := by rcases ho with ⟨kvs, ho, _⟩ | ho <;> rw [ho] <;> simp
      have hb : b = m id := hu2 hl
      subst hb
      unfold Trep
      exact ⟨_, hu1, .inr ⟨id, hl, rfl⟩, g1, g2⟩
    split at hx
    · rename_i kd kvs ho
      cases hr : flatVals kvs with
      | none => simp [hr] at hx
      | some r =>
        simp only [hr, Option.map_some, Option.some.injEq] at hx
        subst hx
        exact key _ _ (.inl ⟨_, ho, hr⟩)
    · rename_i kd kvs ho; cases hx; exact key _ _ (.inr ho)
    · cases hx
  · cases hx

theorem toTs_all (h : RelAt w0 S0 own X N m cap S st a w) : ∀ {vs : List AV} {us : List Value} {xs : List T}, st.toTs vs = some xs → AVreps w S m cap st.ob vs us → Treps w (AllS S m st.ob) xs us
  | [], us, xs, hx, hu => by
    unfold St.toTs at hx
    cases hx
    unfold AVreps at hu
    subst hu
    unfold Treps; trivial
  | v :: vs, us, xs, hx, hu => by
    unfold St.toTs at hx
    split at hx
    · rename_i x xs' h1 h2
      cases hx
      unfold AVreps at hu
      obtain ⟨u, us', rfl, g1, g2⟩ := hu
      unfold Treps
      exact ⟨toT_all h h1 g1, toTs_all h h2 g2⟩
    · cases hx

theorem toTR_all (h : RelAt w0 S0 own X N m cap S st a w) {v : AV} {x : T} {u : Value} (hx : st.toTR v = some x) (hu : AVrep w S m cap st.ob v u) : Trep w (AllS S m st.ob) x u := by
  unfold St.toTR at hx
  split at hx
  · rename_i y hy
    cases hx
    exact toT_all h hy hu
  · cases v with
    | row id sz i n =>
      dsimp only at hx
      split at hx
      · rename_i sz' es ho
        cases ht : st.toTss es with
        | none => simp [ht] at hx
        | some xs =>
          simp only [ht, Option.map_some, Option.some.injEq] at hx
          subst hx
          obtain ⟨t1, t2, t3⟩ := toTss_some ht
          obtain ⟨⟨⟨arr, ty, k1, k2, k3, k3'⟩, k4, k5, k6⟩, k7⟩ := h.obs id _ ho
          have hT := toTs_all h t2 k3
          obtain ⟨p1, p2⟩ := Treps_iff.1 hT
          have hle : es.length * sz' ≤ cap id * sz' := Nat.mul_le_mul_right _ k5
          have hxl : ∀ x ∈ xs, x.length = sz' := fun x hx' => by
            obtain ⟨j, hj⟩ := List.getElem?_of_mem hx'
            have hjl := (List.getElem?_eq_some_iff.1 hj).1
            obtain ⟨e, he⟩ : ∃ e, es[j]? = some e := ⟨_, List.getElem?_eq_getElem (by omega)⟩
            obtain ⟨x', g1, g2⟩ := t3 j e he
            rw [hj] at g1
            cases g1
            rw [(toTs_some g2).1]
            exact k4 e (List.mem_of_getElem? he)
          have hE : Ereps w (AllS S m st.ob) (m id) 0 sz' xs := by
            rw [Ereps_iff]
            intro i e he
            have hel := hxl e (List.mem_of_getElem? he)
            refine ⟨hel, ?_⟩
            rw [Creps_iff]
            intro j x hj
            have hjl := (List.getElem?_eq_some_iff.1 hj).1
            have hil := (List.getElem?_eq_some_iff.1 he).1
            have hf : xs.flatten[i * sz' + j]? = some x := by rw [flatten_mem hxl he (by omega)]; exact hj
            have hlt := mul_lt_len (sz := sz') hil
            rw [t1] at hlt
            have hal : i * sz' + j < arr.size := by omega
            refine ⟨arr[i * sz' + j], ?_, p2 (i * sz' + j) x _ hf ?_⟩
            · unfold World.cell?
              simp only [k1, Nat.zero_add]
              simp [Array.getElem?_eq_getElem hal]
            · rw [List.getElem?_take, if_pos (by omega), Array.getElem?_toList, Array.getElem?_eq_getElem hal]
          unfold AVrep at hu
          obtain ⟨A, c, h1, h2, h3, h4, _, h5⟩ := hu
          obtain ⟨rfl, g2, g3, g4, g5⟩ := h5 sz' es.length (by rw [ho]; rfl)
          unfold Trep
          refine ⟨A, n, c, h1, ?_, h2, h3, fun hn => ?_⟩
          · unfold window; rw [List.length_take, List.length_drop]; omega
          · refine ⟨m id, i * sz', sz', g4 (by omega), .inr ⟨id, by rw [ho]; simp, rfl⟩, ?_⟩
            unfold window
            have := (hE.drop i).take n
            rw [Nat.zero_add] at this
            exact this
      · cases hx
    | _ => cases hx

theorem toTRs_all (h : RelAt w0 S0 own X N m cap S st a w) : ∀ {vs : List AV} {us : List Value} {xs : List T}, st.toTRs vs = some xs → AVreps w S m cap st.ob vs us → Treps w (AllS S m st.ob) xs us
  | [], us, xs, hx, hu => by
    unfold St.toTRs at hx
    cases hx
    unfold AVreps at hu
    subst hu
    unfold Treps; trivial
  | v :: vs, us, xs, hx, hu => by
    unfold St.toTRs at hx
    split at hx
    · rename_i x xs' h1 h2
      cases hx
      unfold AVreps at hu
      obtain ⟨u, us', rfl, g1, g2⟩ := hu
      unfold Treps
      exact ⟨toTR_all h h1 g1, toTRs_all h h2 g2⟩
    · cases hx

theorem argsR_rep (h : RelAt w0 S0 own X N m cap S st a w) : ∀ {vs : List AV} {us : List Value} {ags : List Arg}, AVreps w S m cap st.ob vs us → st.argsR vs ags → ArgsRep w (AllS S m st.ob) ags us []
  | [], us, [], hu, _ => by unfold AVreps at hu; subst hu; simp [ArgsRep]
  | [], _, _ :: _, _, h1 => h1.elim
  | _ :: _, _, [], _, h1 => h1.elim
  | v :: vs, us0, b :: ags, hu, h1 => by
    unfold AVreps at hu
    obtain ⟨u, us', rfl, g1, g2⟩ := hu
    unfold St.argsR at h1
    have ih := argsR_rep h g2 h1.2
    unfold ArgsRep
    refine ⟨u, us', [], [], rfl, rfl, ?_, ih⟩
    have hb := h1.1
    cases b with
    | val x =>
      unfold St.argR at hb
      exact ⟨rfl, toTR_all h hb g1⟩
    | agg xs =>
      obtain ⟨cs, rfl, hc⟩ := hb
      unfold AVrep at g1
      obtain ⟨ws, rfl, g1⟩ := g1
      exact ⟨rfl, ws, rfl, toTRs_all h hc g1⟩
    | _ => exact hb.elim

/-- The step of a call that only reads. -/
theorem call_wpR {o : Oper} {f : FuncId} {xs : Array Operand} {ts : Array TypeId} (ho : o.op = .call ⟨.value (.func f), xs, ts⟩) {H : Nat → Nat × Nat} (h : RelAt w0 S0 own X N m cap S st a w) (hH : ∀ k, m (base + k, 0) = (H k).1 ∧ cap (base + k, 0) = (H k).2) (hN : N ≤ base) (hd : ∀ t, o.dst = some t → t < N)
    (hf : ∀ t, o.dst = some t → st.Free (·.1 = t)) {ags : List Arg} {res : RV} {outs : List (Option Arg)} {sh : Shape} {vsF : List AV} (hfl : flatV sh (xs.toList.map st.ev) = some vsF) (h1 : st.argsR vsF ags) (h3 : CallsFS P f sh ags res outs)
    (h4 : res.flat) {next : Act → World → Prop} {Q : Exit → Act → World → Prop}
    (hk : ∀ a' w', Rel w0 S0 own H X N ((st.eff (retOf o.dst res).2).put o.dst (retOf o.dst res).1) a' w' → next a' w') : o.wp P a w next Q := by
  obtain ⟨usF, hflu, hrepF⟩ := flat_rep (evs_rep h (Froze.refl st) xs.toList) hfl
  obtain ⟨c1, c2, c3⟩ := h3
  have hS1 : ∀ b, AllS S m st.ob b → b < w.heap.size := fun b hb => by
    rcases hb with hb | ⟨id, h1, rfl⟩
    · exact h.stab b hb
    · obtain ⟨o', ho'⟩ := Option.ne_none_iff_exists'.1 h1
      exact (h.obs id o' ho').lt
  have hc := c3 w (AllS S m st.ob) _ _ [] hS1 hflu (argsR_rep h hrepF h1) (by simp) (by simp) (h.fixed (by simp))
  unfold Oper.wp
  rw [run_call c1 ho, Oper.upon_enter]
  have hus : (xs.toList.map a.eval).toArray = xs.map a.eval := by
    apply Array.toList_inj.1
    simp
  rw [hus] at hc
  refine Calls.mono hc fun e w' he => ?_
  obtain ⟨u, S', bs, rfl, k1, k2, k3, k4, k5, k6, k7⟩ := he
  show next (a.put o.dst u) w'
  apply hk
  have r1 : RelAt w0 S0 own X N m cap S st a w' := by
    refine h.called (w' := w') (st' := st) (bl := []) ?_ (by simp) (fun _ hb => hb) (fun b hb => ⟨Nat.lt_of_lt_of_le (h.stab b hb) k1.size, .inl hb⟩) (by simp) rfl rfl (fun id => .inl ⟨rfl, by simp⟩)
    simpa using k1
  cases hdst : o.dst with
  | none =>
    simp only [retOf]
    exact ⟨m, cap, S, r1, hH⟩
  | some t =>
    simp only [retOf]
    have hfree : st.Free (from' t 0) := (hf t hdst).mono fun id hid => hid.1
    have hnb : ∀ b ∈ bs, w.heap.size ≤ b := fun b hb => by
      rcases (k6 b hb).2.2 with hb3 | hb3
      · exact hb3
      · simp at hb3
    obtain ⟨m', cap', p1, p2, p3⟩ := ret_rep res r1 hfree (k4.flat h4) (List.nodup_append.1 k5).1 fun b hb => by
      have := hnb b hb
      refine ⟨fun hs => ?_, .inl (Nat.le_trans h.after.size this), fun id hid he => ?_⟩
      · have := h.stab b hs
        omega
      · obtain ⟨o', ho'⟩ := Option.ne_none_iff_exists'.1 hid
        have := (h.obs id o' ho').lt
        omega
    refine ⟨m', cap', S, p1.rel.put (fun t' ht' => hd t' (by rw [hdst]; exact ht')) p2, fun k => ?_⟩
    have ht : t < base := Nat.lt_of_lt_of_le (hd t hdst) hN
    obtain ⟨e1, e2, _⟩ := p1.old (base + k, 0) (fun hf => Nat.ne_of_gt (Nat.lt_of_lt_of_le ht (Nat.le_add_right base k)) hf.1)
    rw [e1, e2]
    exact hH k

/-- The step of a call. -/
theorem call_wp {o : Oper} {f : FuncId} {xs : Array Operand} {ts : Array TypeId} (ho : o.op = .call ⟨.value (.func f), xs, ts⟩) {H : Nat → Nat × Nat} (h : RelAt w0 S0 own X N m cap S st a w) (hH : ∀ k, m (base + k, 0) = (H k).1 ∧ cap (base + k, 0) = (H k).2) (hN : N ≤ base) (hd : ∀ t, o.dst = some t → t < N)
    (hf : ∀ t, o.dst = some t → st.Free (·.1 = t)) {ags : List Arg} {res : RV} {outs : List (Option Arg)} {keep : Bool} {sh : Shape} {vsF : List AV} (hfl : flatV sh (xs.toList.map st.ev) = some vsF) (h1 : st.args vsF ags) (h2 : apartArgs vsF ags) (h3 : CallsFS P f sh ags res outs)
    (h4 : keep = true → res.flat ∧ Arg.flats outs) {next : Act → World → Prop} {Q : Exit → Act → World → Prop}
    (hk : ∀ a' w', Rel w0 S0 own H X N ((st.eff (callFrz keep st vsF ags ++ outEff vsF ags outs ++ (retOf o.dst res).2)).put o.dst (retOf o.dst res).1) a' w' → next a' w') : o.wp P a w next Q := by
  obtain ⟨S1, r1, q1, z1, v1⟩ := freeze_all h (valsOf vsF ags) (Froze.refl st) (like_args h1)
  have hsame : ∀ id ∈ mutsOf vsF ags, (st.eff (st.frzEffs (valsOf vsF ags))).ob id = st.ob id := fun id hid => frz_other (h2.2 id hid) st
  obtain ⟨usF, hflu, hrepF⟩ := flat_rep (evs_rep r1 z1 xs.toList) hfl
  obtain ⟨g1, g2, g3⟩ := args_rep h r1 z1 vsF usF ags hrepF h1 v1 hsame
  obtain ⟨c1, c2, c3⟩ := h3
  have hab : ∀ b, b ∈ (abOf m cap vsF ags).map (·.1) → ∃ id ∈ mutsOf vsF ags, st.ob id ≠ none ∧ m id = b := fun b hb => by
    rw [g2] at hb
    obtain ⟨id, h1, h2⟩ := List.mem_map.1 hb
    exact ⟨id, h1, g3 id h1, h2⟩
  have hnS1 : ∀ b ∈ (abOf m cap vsF ags).map (·.1), ¬ S1 b := fun b hb => by
    obtain ⟨id, hid, _, rfl⟩ := hab b hb
    rcases args_muts h1 id hid with ⟨sz, es, e⟩ | ⟨cs, e⟩
    · have := r1.obs id (.row sz es) (by rw [hsame id hid]; exact e)
      exact this.2
    · have := r1.obs id (.var cs) (by rw [hsame id hid]; exact e)
      exact this.2
  have hc := c3 w S1 _ _ _ r1.stab hflu g1 (by
    rw [g2]
    unfold List.Nodup
    rw [List.pairwise_map]
    exact List.Pairwise.imp_of_mem (fun {x y} hx hy hne he => hne (h.inj x y (g3 x hx) (g3 y hy) he)) h2.1) (fun b hb => by
    obtain ⟨id, _, hl, rfl⟩ := hab b hb
    obtain ⟨o', ho'⟩ := Option.ne_none_iff_exists'.1 hl
    exact (h.obs id o' ho').lt) (h.fixed fun b hb => by
    obtain ⟨id, _, hl, rfl⟩ := hab b hb
    obtain ⟨o', ho'⟩ := Option.ne_none_iff_exists'.1 hl
    exact h.mine id o' ho')
  unfold Oper.wp
  rw [run_call c1 ho, Oper.upon_enter]
  have hus : (xs.toList.map a.eval).toArray = xs.map a.eval := by
    apply Array.toList_inj.1
    simp
  rw [hus] at hc
  refine Calls.mono hc fun e w' he => ?_
  obtain ⟨u, S', bs, rfl, k1, k2, k3, k4, k5, k6, k7⟩ := he
  show next (a.put o.dst u) w'
  apply hk
  have hbs : ∀ b ∈ bs, (w0.heap.size ≤ b ∨ b ∈ own) ∧ ∀ id, st.ob id ≠ none → m id = b → id ∈ mutsOf vsF ags := fun b hb => by
    obtain ⟨_, _, hb3⟩ := k6 b hb
    rcases hb3 with hb3 | hb3
    · refine ⟨.inl (Nat.le_trans h.after.size hb3), fun id hid he => ?_⟩
      obtain ⟨o', ho'⟩ := Option.ne_none_iff_exists'.1 hid
      have := (h.obs id o' ho').lt
      omega
    · obtain ⟨id, hid, hl, rfl⟩ := hab b hb3
      refine ⟨?_, fun id' hid' he => h.inj id id' hl hid' he.symm ▸ hid⟩
      obtain ⟨o', ho'⟩ := Option.ne_none_iff_exists'.1 hl
      exact h.mine id o' ho'
  have hmine : ∀ id, st.ob id ≠ none → w0.heap.size ≤ m id ∨ m id ∈ own := fun id hl => by
    obtain ⟨o', ho'⟩ := Option.ne_none_iff_exists'.1 hl
    exact h.mine id o' ho'
  have hlive2 : ∀ id, (st.eff (st.frzEffs (valsOf vsF ags))).ob id ≠ none → st.ob id ≠ none := fun id hid => by
    exact z1.live hid
  have hids := outEff_ids (st := st) (outs := outs) h1 c2
  have main : ∃ Sb, RelAt w0 S0 own X N m cap Sb (st.eff (callFrz keep st vsF ags ++ outEff vsF ags outs)) a w' ∧ RVrep w' Sb res u bs ∧ (∀ b ∈ bs, ¬ Sb b) := by
    cases keep with
    | true =>
      obtain ⟨f1, f2⟩ := h4 rfl
      refine ⟨S, ?_, k4.flat f1, fun b hb hS => (k6 b hb).1 (k2 b (q1 b hS))⟩
      simp only [callFrz, if_true, List.nil_append]
      exact call_outs h h1 c2 h2.1 (fun _ _ => rfl) g3 (fun _ hid => hid) h.inj g2 hmine k1 (fun _ hb => hb) (fun b hb => ⟨Nat.lt_of_lt_of_le (h.stab b hb) k1.size, .inl hb⟩) (fun b hb hS => hnS1 b hb (q1 b hS))
        (OutReps.flat f2 (fun b hb hS => hnS1 b.1 (List.mem_map.2 ⟨b, hb, rfl⟩) (q1 b.1 hS)) k7)
    | false =>
      refine ⟨S', ?_, k4, fun b hb => (k6 b hb).1⟩
      simp only [callFrz, Bool.false_eq_true, if_false]
      rw [eff_append]
      exact call_outs r1 h1 c2 h2.1 hsame g3 hlive2 h.inj g2 hmine k1 k2 k3 hnS1 k7
  obtain ⟨Sb, m1, m2, m3⟩ := main
  rw [eff_append]
  cases hdst : o.dst with
  | none =>
    simp only [retOf]
    exact ⟨m, cap, Sb, m1, hH⟩
  | some t =>
    simp only [retOf]
    have hfree : (st.eff (callFrz keep st vsF ags ++ outEff vsF ags outs)).Free (from' t 0) := by
      have h0 : st.Free (from' t 0) := (hf t hdst).mono fun id hid => hid.1
      refine Free.effs h0 (fun e he hp => ?_) (fun e he cs hcs => ?_)
      · rcases List.mem_append.1 he with he | he
        · unfold callFrz at he
          split at he
          · simp at he
          · exact (frzEffs_at _).1 e he (h0.none _ hp)
        · have : e.1 ∈ (outEff vsF ags outs).map (·.1) := List.mem_map.2 ⟨e, he, rfl⟩
          rw [hids] at this
          exact g3 _ this (h0.none _ hp)
      · rcases List.mem_append.1 he with he | he
        · unfold callFrz at he
          split at he
          · simp at he
          · rw [(frzEffs_at _).2 e he cs hcs]; trivial
        · exact outEff_free e he cs hcs
    obtain ⟨m', cap', p1, p2, p3⟩ := ret_rep res m1 hfree m2 (List.nodup_append.1 k5).1 fun b hb => by
      refine ⟨m3 b hb, (hbs b hb).1, fun id hid he => ?_⟩
      have hl : st.ob id ≠ none := by
        by_cases hm : id ∈ mutsOf vsF ags
        · exact g3 id hm
        · rw [eff_append] at hid
          rw [eff_not (by rw [hids]; exact hm)] at hid
          unfold callFrz at hid
          split at hid
          · exact hid
          · exact hlive2 id hid
      have hm := (hbs b hb).2 id hl he
      have hmem : id ∈ (outEff vsF ags outs).map (·.1) := by rw [hids]; exact hm
      obtain ⟨⟨i, o'⟩, he', rfl⟩ := List.mem_map.1 hmem
      rw [eff_append, eff_mem (by rw [hids]; exact h2.1) he'] at hid
      obtain ⟨o2, rfl⟩ := Option.ne_none_iff_exists'.1 hid
      have := outEff_live (m := m) (cap := cap) h1 c2 _ _ he'
      exact (List.nodup_append.1 k5).2.2 b hb _ this he.symm
    refine ⟨m', cap', Sb, p1.rel.put (fun t' ht' => hd t' (by rw [hdst]; exact ht')) p2, fun k => ?_⟩
    have ht : t < base := Nat.lt_of_lt_of_le (hd t hdst) hN
    obtain ⟨e1, e2, _⟩ := p1.old (base + k, 0) (fun hf => Nat.ne_of_gt (Nat.lt_of_lt_of_le ht (Nat.le_add_right base k)) hf.1)
    rw [e1, e2]
    exact hH k

end Cal

/- A calculus of our own, twenty-seventh part: one operation of a region: what it gives, of what that depends, what it touches. No program is named here. -/
set_option linter.unusedSimpArgs false
set_option linter.unusedVariables false
namespace Cal
open Go Go.RowKit

variable {P : Program} {w0 w : World} {S0 S S2 : Nat → Prop} {own : List Nat} {X : Nat → Value} {N : Nat} {m cap : Id → Nat} {st st2 : St} {a : Act} {d : Nat} {rg : Rg} {o : Oper} {v : AV} {f : Eff} {p : Id → Prop}

/-- What an operation gives: its value, what it puts into objects. -/
def OutOp (P : Program) (rg : Rg) (o : Oper) (st : St) (v : AV) (f : Eff) : Prop :=
  match o.op with
  | .call { callee := .value (.func g), args := args, .. } => ∃ sh vsF ags res outs keep, flatV sh (args.toList.map st.ev) = some vsF ∧ ArgsOk st vsF ags keep ∧ apartArgs vsF ags ∧ CallsFS P g sh ags res outs ∧ (keep = true → res.flat ∧ Arg.flats outs) ∧
      (rg.mute o.dst = true → callFrz keep st vsF ags ++ outEff vsF ags outs = []) ∧ v = (retOf o.dst res).1 ∧ f = callFrz keep st vsF ags ++ outEff vsF ags outs ++ (retOf o.dst res).2
  | op => muted (noisy op && rg.mute o.dst) (o.dst.getD 0) (evOp P (o.dst.getD 0) st op) = some (v, f)

def OutG (P : Program) (rg : Rg) (o : Oper) (st : St) (v : AV) (f : Eff) : Prop :=
  (guardA st rg.ops o.guard = some true ∧ OutOp P rg o st v f) ∨ (guardA st rg.ops o.guard = some false ∧ v = .tup [] ∧ f = [])

theorem OutOp_call {g : FuncId} {args : Array Operand} {ats : Array TypeId} (hop : o.op = .call ⟨.value (.func g), args, ats⟩) : OutOp P rg o st v f ↔ ∃ sh vsF ags res outs keep, flatV sh (args.toList.map st.ev) = some vsF ∧ ArgsOk st vsF ags keep ∧ apartArgs vsF ags ∧ CallsFS P g sh ags res outs ∧ (keep = true → res.flat ∧ Arg.flats outs) ∧
      (rg.mute o.dst = true → callFrz keep st vsF ags ++ outEff vsF ags outs = []) ∧ v = (retOf o.dst res).1 ∧ f = callFrz keep st vsF ags ++ outEff vsF ags outs ++ (retOf o.dst res).2 := by
  unfold OutOp
  simp only [hop]
theorem OutOp_other (hne : ∀ (g : FuncId) (args : Array Operand) (ats : Array TypeId), o.op ≠ .call ⟨.value (.func g), args, ats⟩) : OutOp P rg o st v f ↔ muted (noisy o.op && rg.mute o.dst) (o.dst.getD 0) (evOp P (o.dst.getD 0) st o.op) = some (v, f) := by
  unfold OutOp
  split
  · exact absurd (by assumption) (hne _ _ _)
  · exact Iff.rfl
theorem call_or (o : Oper) : (∃ (g : FuncId) (args : Array Operand) (ats : Array TypeId), o.op = .call ⟨.value (.func g), args, ats⟩) ∨ ∀ (g : FuncId) (args : Array Operand) (ats : Array TypeId), o.op ≠ .call ⟨.value (.func g), args, ats⟩ := by
  by_cases h : ∃ (g : FuncId) (args : Array Operand) (ats : Array TypeId), o.op = .call ⟨.value (.func g), args, ats⟩
  · exact .inl h
  · exact .inr fun g args ats e => h ⟨g, args, ats, e⟩

theorem wpOp_out {K : St → Prop} (h : wpOp P rg o st K) : ∃ v f, OutOp P rg o st v f ∧ K ((st.eff f).put o.dst v) := by
  rcases call_or o with ⟨g, args, ats, hop⟩ | hne
  · unfold wpOp at h
    simp only [hop] at h
    obtain ⟨sh, vsF, ags, res, outs, keep, h0, h1, h2, h3, h4, h5, h6⟩ := h
    exact ⟨_, _, (OutOp_call hop).2 ⟨sh, vsF, ags, res, outs, keep, h0, h1, h2, h3, h4, h5, rfl, rfl⟩, h6⟩
  · unfold wpOp at h
    split at h
    · exact absurd (by assumption) (hne _ _ _)
    · obtain ⟨r, h1, h2⟩ := h
      exact ⟨r.1, r.2, (OutOp_other hne).2 h1, h2⟩

theorem out_wpOp {K : St → Prop} (h : OutOp P rg o st v f) (hk : K ((st.eff f).put o.dst v)) : wpOp P rg o st K := by
  rcases call_or o with ⟨g, args, ats, hop⟩ | hne
  · obtain ⟨sh, vsF, ags, res, outs, keep, h0, h1, h2, h3, h4, h5, rfl, rfl⟩ := (OutOp_call hop).1 h
    unfold wpOp
    simp only [hop]
    exact ⟨sh, vsF, ags, res, outs, keep, h0, h1, h2, h3, h4, h5, hk⟩
  · unfold wpOp
    split
    · exact absurd (by assumption) (hne _ _ _)
    · exact ⟨(v, f), (OutOp_other hne).1 h, hk⟩

theorem wpL_out {l : List Oper} {K : St → Prop} (h : wpL P rg (o :: l) st K) : ∃ v f, OutG P rg o st v f ∧ wpL P rg l ((st.eff f).put o.dst v) K := by
  rw [wpL] at h
  obtain ⟨b, hb, h⟩ := h
  cases b with
  | true =>
    obtain ⟨v, f, h1, h2⟩ := wpOp_out h
    exact ⟨v, f, .inl ⟨hb, h1⟩, h2⟩
  | false => exact ⟨.tup [], [], .inr ⟨hb, rfl, rfl⟩, h⟩

theorem out_wpL {l : List Oper} {K : St → Prop} (h : OutG P rg o st v f) (hk : wpL P rg l ((st.eff f).put o.dst v) K) : wpL P rg (o :: l) st K := by
  rw [wpL]
  rcases h with ⟨hb, h⟩ | ⟨hb, rfl, rfl⟩
  · exact ⟨true, hb, out_wpOp h hk⟩
  · exact ⟨false, hb, hk⟩

theorem muted_inv {b : Bool} {x : Option (AV × Eff)} (h : muted b d x = some (v, f)) : x = some (v, f) ∧ (b = true → ∀ e ∈ f, e.1.1 = d) := by
  unfold muted at h
  split at h
  · split at h
    · split at h
      · rename_i hall
        cases h
        refine ⟨rfl, fun _ e he => ?_⟩
        have := List.all_eq_true.1 hall e he
        simpa using this
      · cases h
    · cases h
  · rename_i hb
    exact ⟨h, fun hb' => absurd hb' hb⟩

/-- Does an operation make objects? -/
def mkO : Op → Bool
  | .alloc _ | .box .. | .buildSlice .. | .makeSlice .. | .makeMap .. => true
  | .call { callee := .builtin .len, .. } => false
  | .call _ => true
  | _ => false

theorem makes_cons (o : Oper) (l : List Oper) : makes (o :: l) = (if mkO o.op = true then o.dst.toList else []) ++ makes l := by
  simp only [makes, mkO]
  split <;> simp_all

theorem mkr_mkO {op : Op} (h : mkr op = true) : mkO op = true := by
  unfold mkr at h
  split at h <;> first | rfl | cases h

/-- What is asked of every operation. -/
def okOper (N : Nat) (o : Oper) : Bool := (match o.dst with
  | some t => decide (t < N)
  | none => !(mkr o.op))

theorem okOper_lt (h : okOper N o = true) {t : Nat} (ht : o.dst = some t) : t < N := by
  unfold okOper at h
  rw [ht] at h
  simpa using h
theorem okOper_mkr (h : okOper N o = true) (hm : mkr o.op = true) : o.dst = some (o.dst.getD 0) := by
  unfold okOper at h
  cases hd : o.dst with
  | some t => rfl
  | none => rw [hd] at h; simp [hm] at h

/-- Operations that make nothing don't depend on the place. -/
theorem evOp_place {op : Op} (h : mkr op = false) (d d' : Nat) : evOp P d st op = evOp P d' st op := by
  unfold evOp
  split <;> first | rfl | (cases h; done) | skip
  rename_i b xs ts
  unfold callA
  split <;> first | rfl | (cases h; done)

theorem retA_at : ∀ (r : RV) (d k : Nat), (∀ e ∈ (retA d k r).2.1, e.1.1 = d) ∧ (∀ p : Id → Prop, (∀ k, ¬ p (d, k)) → (retA d k r).1.free p ∧ Eff.free p (retA d k r).2.1) := by
  intro r d k
  exact RV.rec (motive_1 := fun r => ∀ d k, (∀ e ∈ (retA d k r).2.1, e.1.1 = d) ∧ (∀ p : Id → Prop, (∀ k, ¬ p (d, k)) → (retA d k r).1.free p ∧ Eff.free p (retA d k r).2.1))
    (motive_2 := fun rs => ∀ d k, (∀ e ∈ (retAs d k rs).2.1, e.1.1 = d) ∧ (∀ p : Id → Prop, (∀ k, ¬ p (d, k)) → AV.frees p (retAs d k rs).1 ∧ Eff.free p (retAs d k rs).2.1))
    (fun x d k => ⟨by simp [retA], fun p hp => ⟨by simp [retA, AV.free], by simp [retA, Eff.free]⟩⟩)
    (fun sz es d k => ⟨by simp [retA], fun p hp => ⟨by simp [retA, AV.free, hp], by simp [retA, Eff.free, Ob.avs, AV.frees]⟩⟩)
    (fun cs ih d k => ⟨by simpa only [retA] using (ih d k).1, fun p hp => ⟨by simp only [retA]; unfold AV.free; exact ((ih d k).2 p hp).1, by simpa only [retA] using ((ih d k).2 p hp).2⟩⟩)
    (fun cs ih d k => ⟨by simpa only [retA] using (ih d k).1, fun p hp => ⟨by simp only [retA]; unfold AV.free; exact ((ih d k).2 p hp).1, by simpa only [retA] using ((ih d k).2 p hp).2⟩⟩)
    (fun kd kvs d k => ⟨by simp [retA], fun p hp => ⟨by simp [retA, AV.free, hp], fun e he cs' hcs => by
      simp [retA] at he
      subst he
      simp at hcs
      subst hcs
      refine frees_mem fun v hv => ?_
      obtain ⟨q, hq, rfl⟩ := List.mem_map.1 hv
      obtain ⟨q', _, rfl⟩ := List.mem_map.1 hq
      trivial⟩⟩)
    (fun cs d k => ⟨by simp [retA], fun p hp => ⟨by simp [retA, AV.free, hp], fun e he cs' hcs => by
      simp [retA] at he
      subst he
      simp at hcs
      subst hcs
      exact AV.frees_map_t _ _⟩⟩)
    (fun d k => ⟨by simp [retAs], fun p hp => ⟨by simp [retAs, AV.frees], by simp [retAs, Eff.free]⟩⟩)
    (fun r rs ih1 ih2 d k => ⟨fun e he => by
      simp only [retAs] at he
      rcases List.mem_append.1 he with he | he
      · exact (ih1 d k).1 e he
      · exact (ih2 d _).1 e he, fun p hp => ⟨by
        simp only [retAs]
        unfold AV.frees
        exact ⟨((ih1 d k).2 p hp).1, ((ih2 d _).2 p hp).1⟩, by
        simp only [retAs]
        exact Eff.free_append ((ih1 d k).2 p hp).2 ((ih2 d _).2 p hp).2⟩⟩) r d k

/-- Does an operation write on objects that others have? -/
def loudW (rg : Rg) (o : Oper) : Bool :=
  match o.op with
  | .store .. => true
  | .mapUpdate .. => true
  | .buildSlice .. => !(rg.mute o.dst)
  | .call { callee := .builtin .append, .. } => true
  | .call { callee := .value _, .. } => !(rg.mute o.dst)
  | _ => false

theorem wr_store {op : Op} (h : wr op = true) (hm : mkr op = false) : (∃ t x y, op = .store t x y) ∨ ∃ t x k y, op = .mapUpdate t x k y := by
  unfold wr at h
  split at h
  · exact .inl ⟨_, _, _, rfl⟩
  · exact .inr ⟨_, _, _, _, rfl⟩
  · cases hm
  · cases hm
  · cases h

theorem wr_mkr {op : Op} (h : wr op = true) (hm : mkr op = true) : (∃ t n ps, op = .buildSlice t n ps) ∨ ∃ args ats, op = .call ⟨.builtin .append, args, ats⟩ := by
  unfold wr at h
  split at h
  · cases hm
  · cases hm
  · exact .inl ⟨_, _, _, rfl⟩
  · exact .inr ⟨_, _, rfl⟩
  · cases h

/-- Which objects an operation touches. -/
theorem out_at (hok : okOper N o = true) (h : OutOp P rg o st v f) : Eff.at (fun id => (mkO o.op = true ∧ o.dst = some id.1) ∨ (loudW rg o = true ∧ st.ob id ≠ none)) f := by
  rcases call_or o with ⟨g, args, ats, hop⟩ | hne
  · obtain ⟨sh, vsF, ags, res, outs, keep, h0, h1, h2, h3, h4, h5, rfl, rfl⟩ := (OutOp_call hop).1 h
    refine Eff.at_append ?_ ?_
    · cases hm : rg.mute o.dst with
      | true =>
        rw [h5 hm]
        exact Eff.at_nil _
      | false =>
        have hl : loudW rg o = true := by simp [loudW, hop, hm]
        refine Eff.at_append ?_ ?_
        · unfold callFrz
          split
          · exact Eff.at_nil _
          · exact Eff.at_mono (frzEffs_at _).1 fun id hid => .inr ⟨hl, hid⟩
        · intro e he
          have hmem : e.1 ∈ (outEff vsF ags outs).map (·.1) := List.mem_map.2 ⟨e, he, rfl⟩
          rcases h1.symm with ⟨_, h1⟩ | h1
          · rw [(argsR_muts h1).2] at he; simp at he
          rw [outEff_ids h1 h3.2.1] at hmem
          right
          refine ⟨hl, ?_⟩
          rcases args_muts h1 _ hmem with ⟨sz, es, e'⟩ | ⟨cs, e'⟩ <;> rw [e'] <;> simp
    · cases hd : o.dst with
      | none => exact Eff.at_nil _
      | some t =>
        intro e he
        left
        exact ⟨by rw [hop]; rfl, by rw [(retA_at res t 0).1 e he]⟩
  · obtain ⟨h1, h2⟩ := muted_inv ((OutOp_other hne).1 h)
    intro e he
    cases hm : mkr o.op with
    | true =>
      have hd := okOper_mkr hok hm
      rcases (evOp_mild h1).at' e he with e1 | ⟨e1, e2⟩
      · left
        refine ⟨mkr_mkO hm, ?_⟩
        rw [e1]
        exact hd
      · by_cases hn : (noisy o.op && rg.mute o.dst) = true
        · left
          refine ⟨mkr_mkO hm, ?_⟩
          rw [h2 hn e he]
          exact hd
        · right
          refine ⟨?_, e2⟩
          rcases wr_mkr e1 hm with ⟨t, n, ps, hop⟩ | ⟨args, ats, hop⟩
          · rw [hop] at hn
            simpa [loudW, hop, noisy] using hn
          · simp [loudW, hop]
    | false =>
      right
      have hat : ∀ d', e.1 = (d', 0) ∨ (wr o.op = true ∧ st.ob e.1 ≠ none) := fun d' => by
        rw [evOp_place hm _ d'] at h1
        exact (evOp_mild h1).at' e he
      have hw : wr o.op = true ∧ st.ob e.1 ≠ none := by
        rcases hat 0 with e1 | e1
        · rcases hat 1 with e2 | e2
          · rw [e1] at e2; cases e2
          · exact e2
        · exact e1
      refine ⟨?_, hw.2⟩
      rcases wr_store hw.1 hm with ⟨t, x, y, hop⟩ | ⟨t, x, k, y, hop⟩
      · simp [loudW, hop]
      · simp [loudW, hop]

theorem outG_at (hok : okOper N o = true) (h : OutG P rg o st v f) : Eff.at (fun id => (mkO o.op = true ∧ o.dst = some id.1) ∨ (loudW rg o = true ∧ st.ob id ≠ none)) f := by
  rcases h with ⟨_, h⟩ | ⟨_, _, rfl⟩
  · exact out_at hok h
  · exact Eff.at_nil _

theorem frees_map_ev (hf : st.Free p) : ∀ xs : List Operand, AV.frees p (xs.map st.ev)
  | [] => by simp [AV.frees]
  | x :: xs => by
    simp only [List.map_cons]
    unfold AV.frees
    exact ⟨hf.ev x, frees_map_ev hf xs⟩

/-- What an operation gives names nothing that isn't made yet. -/
theorem out_free {t : Nat} (hok : okOper N o = true) (ht : mkO o.op = true → o.dst ≠ some t) (hf : st.Free (·.1 = t)) (h : OutOp P rg o st v f) : v.free (·.1 = t) ∧ Eff.free (·.1 = t) f := by
  rcases call_or o with ⟨g, args, ats, hop⟩ | hne
  · obtain ⟨sh, vsF, ags, res, outs, keep, h0, h1, h2, h3, h4, h5, rfl, rfl⟩ := (OutOp_call hop).1 h
    have hc : Eff.free (fun id : Id => id.1 = t) (callFrz keep st vsF ags ++ outEff vsF ags outs) := by
      refine Eff.free_append ?_ ?_
      · unfold callFrz
        split
        · exact Eff.free_nil _
        · exact (frzEffs_at _).2.free _
      · exact fun e he cs hcs => outEff_free e he cs hcs
    cases hd : o.dst with
    | none => exact ⟨by simp [retOf, AV.free], Eff.free_append hc (Eff.free_nil _)⟩
    | some t' =>
      have hne : t' ≠ t := fun e => ht (by rw [hop]; rfl) (by rw [hd, e])
      obtain ⟨g1, g2⟩ := (retA_at res t' 0).2 (fun id : Id => id.1 = t) (fun k => hne)
      exact ⟨g1, Eff.free_append hc g2⟩
  · obtain ⟨h1, h2⟩ := muted_inv ((OutOp_other hne).1 h)
    cases hm : mkr o.op with
    | true =>
      have hd := okOper_mkr hok hm
      exact (evOp_mild h1).free _ hf fun e => ht (mkr_mkO hm) (by rw [hd]; exact congrArg some e)
    | false =>
      rw [evOp_place hm _ (t + 1)] at h1
      exact (evOp_mild h1).free _ hf (by simp)

theorem Free.put {s : St} (h : s.Free p) {dst : Option Nat} (hv : v.free p) : (s.put dst v).Free p := by
  cases dst with
  | none => exact h
  | some t =>
    refine ⟨fun u => ?_, h.gh, h.avs, h.none⟩
    simp only [St.put]
    split
    · exact hv
    · exact h.tm u

theorem outG_Free {t : Nat} (hok : okOper N o = true) (ht : mkO o.op = true → o.dst ≠ some t) (hf : st.Free (·.1 = t)) (h : OutG P rg o st v f) : ((st.eff f).put o.dst v).Free (·.1 = t) := by
  have hat := outG_at hok h
  have hfr : v.free (·.1 = t) ∧ Eff.free (·.1 = t) f := by
    rcases h with ⟨_, h⟩ | ⟨_, rfl, rfl⟩
    · exact out_free hok ht hf h
    · exact ⟨by simp [AV.free, AV.frees], Eff.free_nil _⟩
  refine Free.put (Free.effs hf (fun e he hp => ?_) hfr.2) hfr.1
  rcases hat e he with ⟨h1, h2⟩ | ⟨_, h2⟩
  · exact ht h1 (by rw [h2, ← hp])
  · exact h2 (hf.none _ hp)

/-! ### of what it depends -/
theorem arg_congr (h : Agree p st st2) {x : AV} (hx : x.free p) {b : Arg} (hb : st.arg x b) : st2.arg x b := by
  cases b with
  | val y =>
    unfold St.arg at *
    rw [← toT_congr h hx]; exact hb
  | agg ys =>
    unfold St.arg at *
    obtain ⟨cs, rfl, h2⟩ := hb
    unfold AV.free at hx
    exact ⟨cs, rfl, by rw [← toTs_congr h hx]; exact h2⟩
  | mrow sz es =>
    unfold St.arg at *
    obtain ⟨id, rfl, h2⟩ := hb
    unfold AV.free at hx
    exact ⟨id, rfl, by rw [← h id hx]; exact h2⟩
  | mvar cs =>
    unfold St.arg at *
    obtain ⟨id, rfl, h2⟩ := hb
    unfold AV.free at hx
    exact ⟨id, rfl, by rw [← h id hx]; exact h2⟩
theorem args_congr (h : Agree p st st2) : ∀ {vs : List AV} {ags : List Arg}, AV.frees p vs → st.args vs ags → st2.args vs ags
  | [], [], _, _ => trivial
  | [], _ :: _, _, hb => hb.elim
  | _ :: _, [], _, hb => hb.elim
  | v :: vs, b :: ags, hv, hb => by
    unfold AV.frees at hv
    unfold St.args at hb ⊢
    exact ⟨arg_congr h hv.1 hb.1, args_congr h hv.2 hb.2⟩
theorem frees_valsOf : ∀ {vs : List AV} {ags : List Arg}, AV.frees p vs → AV.frees p (valsOf vs ags)
  | [], ags, _ => by cases ags <;> simp [valsOf, AV.frees]
  | v :: vs, [], _ => by simp [valsOf, AV.frees]
  | v :: vs, b :: ags, hv => by
    unfold AV.frees at hv
    have ih := frees_valsOf (ags := ags) hv.2
    cases b with
    | val y => simp only [valsOf]; unfold AV.frees; exact ⟨hv.1, ih⟩
    | agg ys => simp only [valsOf]; exact frees_append (AV.cells_free hv.1) ih
    | mrow sz es => simpa only [valsOf] using ih
    | mvar cs => simpa only [valsOf] using ih

theorem Agree.symm (h : Agree p st st2) : Agree p st2 st := fun id hid => (h id hid).symm

theorem frees_flatV : ∀ {sh : Shape} {vs vsF : List AV}, AV.frees p vs → flatV sh vs = some vsF → AV.frees p vsF
  | [], [], vsF, _, h => by
    simp only [flatV, Option.some.injEq] at h
    subst h
    unfold AV.frees; trivial
  | [], _ :: _, _, _, h => by simp [flatV] at h
  | none :: _, [], _, _, h => by simp [flatV] at h
  | some _ :: _, [], _, _, h => by simp [flatV] at h
  | none :: sh, v :: vs, vsF, hf, h => by
    unfold AV.frees at hf
    simp only [flatV] at h
    cases hl : flatV sh vs with
    | none => rw [hl] at h; cases h
    | some l =>
      rw [hl] at h
      simp only [Option.map_some, Option.some.injEq] at h
      subst h
      unfold AV.frees
      exact ⟨hf.1, frees_flatV hf.2 hl⟩
  | some n :: sh, v :: vs, vsF, hf, h => by
    unfold AV.frees at hf
    cases v with
    | agg cs =>
      simp only [flatV] at h
      split at h
      · cases hl : flatV sh vs with
        | none => rw [hl] at h; cases h
        | some l =>
          rw [hl] at h
          simp only [Option.map_some, Option.some.injEq] at h
          subst h
          have h1 := hf.1
          unfold AV.free at h1
          exact frees_append h1 (frees_flatV hf.2 hl)
      · cases h
    | _ => simp [flatV] at h

theorem frees_app {p : Id → Prop} : ∀ {xs ys : List AV}, AV.frees p (xs ++ ys) → AV.frees p xs ∧ AV.frees p ys
  | [], ys, h => ⟨by simp [AV.frees], h⟩
  | x :: xs, ys, h => by
    simp only [List.cons_append] at h
    unfold AV.frees at h
    obtain ⟨h1, h2⟩ := frees_app h.2
    exact ⟨(show AV.frees p (x :: xs) from by unfold AV.frees; exact ⟨h.1, h1⟩), h2⟩
theorem toTR_congr (h : Agree p st st2) (hf : ∀ id o, ¬ p id → st.ob id = some o → AV.frees p o.avs) {v : AV} (hv : v.free p) : st.toTR v = st2.toTR v := by
  unfold St.toTR
  rw [← toT_congr h hv]
  cases st.toT v with
  | some x => rfl
  | none =>
    cases v with
    | row id sz i n =>
      unfold AV.free at hv
      dsimp only
      rw [← h id hv]
      cases ho : st.ob id with
      | none => rfl
      | some ob =>
        cases ob with
        | big sz es =>
          dsimp only
          have hav := hf id _ hv ho
          have : ∀ es : List (List AV), AV.frees p es.flatten → st.toTss es = st2.toTss es := by
            intro es
            induction es with
            | nil => intro _; rfl
            | cons e es ih =>
              intro hh
              rw [List.flatten_cons] at hh
              obtain ⟨h1, h2⟩ := frees_app hh
              unfold St.toTss
              rw [toTs_congr h h1, ih h2]
          rw [this es hav]
        | _ => rfl
    | _ => rfl
theorem toTRs_congr (h : Agree p st st2) (hf : ∀ id o, ¬ p id → st.ob id = some o → AV.frees p o.avs) : ∀ {vs : List AV}, AV.frees p vs → st.toTRs vs = st2.toTRs vs
  | [], _ => rfl
  | v :: vs, hv => by
    unfold AV.frees at hv
    unfold St.toTRs
    rw [toTR_congr h hf hv.1, toTRs_congr h hf hv.2]
theorem argsR_congr (h : Agree p st st2) (hf : ∀ id o, ¬ p id → st.ob id = some o → AV.frees p o.avs) : ∀ {vs : List AV} {ags : List Arg}, AV.frees p vs → st.argsR vs ags → st2.argsR vs ags
  | [], [], _, _ => trivial
  | [], _ :: _, _, hb => hb.elim
  | _ :: _, [], _, hb => hb.elim
  | v :: vs, b :: ags, hv, hb => by
    unfold AV.frees at hv
    unfold St.argsR at hb ⊢
    refine ⟨?_, argsR_congr h hf hv.2 hb.2⟩
    have hb1 := hb.1
    cases b with
    | val y =>
      unfold St.argR at *
      rw [← toTR_congr h hf hv.1]; exact hb1
    | agg ys =>
      unfold St.argR at *
      obtain ⟨cs, rfl, h2⟩ := hb1
      have hv1 := hv.1
      unfold AV.free at hv1
      exact ⟨cs, rfl, by rw [← toTRs_congr h hf hv1]; exact h2⟩
    | _ => exact hb1.elim

theorem call_congr {g : FuncId} {args : Array Operand} {ats : Array TypeId} (hop : o.op = .call ⟨.value (.func g), args, ats⟩) (hvs : args.toList.map st2.ev = args.toList.map st.ev) (r1 : Agree p st st2) (hfr : AV.frees p (args.toList.map st.ev)) (hfp : ∀ id o, ¬ p id → st.ob id = some o → AV.frees p o.avs) (h : OutOp P rg o st v f) : OutOp P rg o st2 v f := by
  obtain ⟨sh, vsF, ags, res, outs, keep, h0, h1, h2, h3, h4, h5, rfl, rfl⟩ := (OutOp_call hop).1 h
  have hfF := frees_flatV hfr h0
  have hfz : callFrz keep st vsF ags = callFrz keep st2 vsF ags := by
    unfold callFrz
    rw [frzEffs_congr r1 (frees_valsOf hfF)]
  refine (OutOp_call hop).2 ?_
  rw [hvs]
  refine ⟨sh, vsF, ags, res, outs, keep, h0, h1.imp (args_congr r1 hfF) (fun h1 => ⟨h1.1, argsR_congr r1 hfp hfF h1.2⟩), h2, h3, h4, ?_, rfl, ?_⟩
  · rw [← hfz]; exact h5
  · rw [← hfz]

theorem out_congr (hx : ∀ x ∈ o.op.operands, st.ev x = st2.ev x) (hr : peeks o.op = true → Agree p st st2 ∧ st.Free p) : OutOp P rg o st v f ↔ OutOp P rg o st2 v f := by
  rcases call_or o with ⟨g, args, ats, hop⟩ | hne
  · obtain ⟨r1, r2⟩ := hr (by rw [hop]; rfl)
    have hvs : args.toList.map st2.ev = args.toList.map st.ev := List.map_congr_left fun x hx' => (hx x (by rw [hop]; simp [Op.operands, Call.operands]; right; simpa using hx')).symm
    have hfr := frees_map_ev r2 args.toList
    exact ⟨call_congr hop hvs r1 hfr (fun id o _ ho => r2.avs id o ho), call_congr hop hvs.symm r1.symm (by rw [hvs]; exact hfr) (fun id o hp ho => r2.avs id o (by rw [r1 id hp]; exact ho))⟩
  · rw [OutOp_other hne, OutOp_other hne, ← evOp_congr (P := P) hx hr]

theorem guardA_congr {ops : Array Oper} (hx : ∀ t ∈ o.looksAt ops, st.tm t = st2.tm t) : guardA st ops o.guard = guardA st2 ops o.guard := by
  cases hg : o.guard with
  | none => rfl
  | some jw =>
    obtain ⟨j, want⟩ := jw
    have e : ((ops[j]?).bind (·.dst)).map st.tm = ((ops[j]?).bind (·.dst)).map st2.tm := by
      cases hb : (ops[j]?).bind (·.dst) with
      | none => rfl
      | some t =>
        simp only [Option.map_some]
        rw [hx t (by unfold Oper.looksAt; rw [hg]; simp [hb])]
    simp only [guardA, e]

theorem outG_congr (hx : ∀ t ∈ o.looksAt rg.ops, st.tm t = st2.tm t) (hr : peeks o.op = true → Agree p st st2 ∧ st.Free p) : OutG P rg o st v f ↔ OutG P rg o st2 v f := by
  unfold OutG
  rw [← guardA_congr hx, out_congr (P := P) (rg := rg) (o := o) (v := v) (f := f) (fun x hx' => ?_) hr]
  cases x with
  | tmp t =>
    exact hx t (by unfold Oper.looksAt; exact List.mem_append_left _ (List.mem_filterMap.2 ⟨.tmp t, by simpa using hx', rfl⟩))
  | _ => rfl

end Cal

/- A calculus of our own, twenty-eighth part: regions, in the text's order and in a drawn order. No program is named here. -/
set_option linter.unusedSimpArgs false
set_option linter.unusedVariables false
namespace Cal
open Go Go.RowKit

variable {H : Nat → Nat × Nat} {P : Program} {w0 w : World} {S0 S S2 : Nat → Prop} {own : List Nat} {X : Nat → Value} {N : Nat} {m cap : Id → Nat} {st st2 : St} {a : Act} {d : Nat} {rg : Rg} {o : Oper} {v : AV} {f : Eff} {p : Id → Prop}

/-- The model does what an operation gives. -/
theorem out_wp (hN : N ≤ base) (hok : okOper N o = true) (h : RelAt w0 S0 own X N m cap S st a w) (hH : ∀ k, m (base + k, 0) = (H k).1 ∧ cap (base + k, 0) = (H k).2) (hf : mkO o.op = true → ∀ t, o.dst = some t → st.Free (·.1 = t)) (ho : OutOp P rg o st v f) {next : Act → World → Prop} {Q : Exit → Act → World → Prop}
    (hk : ∀ a' w', Rel w0 S0 own H X N ((st.eff f).put o.dst v) a' w' → next a' w') : o.wp P a w next Q := by
  rcases call_or o with ⟨g, args, ats, hop⟩ | hne
  · obtain ⟨sh, vsF, ags, res, outs, keep, h0, h1, h2, h3, h4, h5, rfl, rfl⟩ := (OutOp_call hop).1 ho
    rcases h1 with h1 | ⟨rfl, h1⟩
    · exact call_wp hop h hH hN (fun t ht => okOper_lt hok ht) (hf (by rw [hop]; rfl)) h0 h1 h2 h3 h4 hk
    · refine call_wpR hop h hH hN (fun t ht => okOper_lt hok ht) (hf (by rw [hop]; rfl)) h0 h1 h3 (h4 rfl).1 ?_
      simpa [callFrz, (argsR_muts h1).2] using hk
  · obtain ⟨h1, h2⟩ := muted_inv ((OutOp_other hne).1 ho)
    obtain ⟨u, w', m', cap', S', g1, g2, g3, g4⟩ := gives_op (o := o) h (d := o.dst.getD 0) (fun hm => hf (mkr_mkO hm) _ (okOper_mkr hok hm)) h1
    have hH' : ∀ k, m' (base + k, 0) = (H k).1 ∧ cap' (base + k, 0) = (H k).2 := fun k => by
      have hne : o.dst.getD 0 < base := by
        cases hd : o.dst with
        | none => unfold base; simp
        | some t => exact Nat.lt_of_lt_of_le (okOper_lt hok hd) hN
      obtain ⟨e1, e2⟩ := g4 (base + k, 0) (Nat.ne_of_gt (Nat.lt_of_lt_of_le hne (Nat.le_add_right base k)))
      rw [e1, e2]
      exact hH k
    unfold Oper.wp
    rcases g1 with g1 | ⟨g1, rfl⟩
    · rw [g1, Oper.upon_value]
      exact hk _ _ ⟨m', cap', S', g2.put (fun t ht => okOper_lt hok ht) g3, hH'⟩
    · rw [g1, Oper.upon_skip]
      exact hk _ _ ⟨m', cap', S', g2.put (fun t ht => okOper_lt hok ht) g3, hH'⟩

theorem guard_rel (h : RelAt w0 S0 own X N m cap S st a w) {ops : Array Oper} {b : Bool} (hg : guardA st ops o.guard = some b) : Region.wanted o (yielded ops a.tmps) = b := by
  unfold Region.wanted
  cases hgd : o.guard with
  | none =>
    rw [hgd] at hg
    simp only [guardA, Option.some.injEq] at hg
    exact hg
  | some jw =>
    obtain ⟨j, want⟩ := jw
    rw [hgd] at hg
    simp only [guardA] at hg
    cases hb : (ops[j]?).bind (·.dst) with
    | none => rw [hb] at hg; simp at hg
    | some t =>
      rw [hb] at hg
      simp only [Option.map_some] at hg
      split at hg
      · rename_i c hc
        simp only [Option.some.injEq] at hc hg
        have htm := h.tm t
        rw [hc] at htm
        obtain ⟨e, _⟩ := AVrep_v_inv htm
        have hget : a.tmps[t]? = some (.bool c) := by
          rw [Array.getD_eq_getD_getElem?] at e
          cases hq : a.tmps[t]? with
          | none => rw [hq] at e; cases e
          | some u => rw [hq] at e; simpa using e
        have hy : yielded ops a.tmps j = some c := by
          unfold yielded
          rw [hb]
          simp only [Option.bind_some, hget]
        simp only [hy]
        rw [← hg]
        cases c <;> cases want <;> rfl
      · rename_i hc
        simp only [Option.some.injEq] at hc hg
        have htm := h.tm t
        rw [hc] at htm
        unfold AVrep at htm
        obtain ⟨us, e, e2⟩ := htm
        unfold AVreps at e2
        subst e2
        have hy : yielded ops a.tmps j = none := by
          unfold yielded
          rw [hb]
          rw [Array.getD_eq_getD_getElem?] at e
          cases hq : a.tmps[t]? with
          | none => simp only [Option.bind_some, hq]
          | some u => rw [hq] at e; simp only [Option.getD_some] at e; simp only [Option.bind_some, hq, e]
        simp only [hy]
        rw [← hg]
        rfl
      · cases hg

/-- One step of a region. -/
theorem outG_wp {ops : Array Oper} (hops : rg.ops = ops) {i : Nat} (hi : ops[i]? = some o) (hN : N ≤ base) (hok : okOper N o = true) (h : RelAt w0 S0 own X N m cap S st a w) (hH : ∀ k, m (base + k, 0) = (H k).1 ∧ cap (base + k, 0) = (H k).2) (hf : mkO o.op = true → ∀ t, o.dst = some t → st.Free (·.1 = t)) (ho : OutG P rg o st v f)
    {K : Act → World → Prop} {Q : Exit → Act → World → Prop} (hk : ∀ a' w', Rel w0 S0 own H X N ((st.eff f).put o.dst v) a' w' → K a' w') : Go.wpOp P ops Q i K a w := by
  unfold Go.wpOp
  simp only [hi]
  subst hops
  rcases ho with ⟨hg, ho⟩ | ⟨hg, rfl, rfl⟩
  · rw [guard_rel h hg]
    simp only [if_true]
    exact .inl (out_wp hN hok h hH hf ho hk)
  · rw [guard_rel h hg]
    simp only [Bool.false_eq_true, if_false]
    exact hk _ _ ⟨m, cap, S, h.put (fun t ht => okOper_lt hok ht) (by unfold AVrep; exact ⟨[], rfl, by unfold AVreps; rfl⟩), hH⟩

/-- What is still to be made is free. -/
def Fresh (l : List Oper) (st : St) : Prop := (∀ o ∈ l, mkO o.op = true → ∀ t, o.dst = some t → st.Free (·.1 = t)) ∧ (makes l).Nodup

theorem mem_makes {t : Nat} : ∀ {l : List Oper}, t ∈ makes l ↔ ∃ o ∈ l, mkO o.op = true ∧ o.dst = some t
  | [] => by simp [makes]
  | o :: l => by
    rw [makes_cons, List.mem_append, mem_makes (l := l)]
    simp only [List.mem_cons, exists_eq_or_imp]
    constructor
    · rintro (h | h)
      · left
        split at h
        · rename_i hm
          exact ⟨hm, by simpa using h⟩
        · simp at h
      · exact .inr h
    · rintro (⟨h1, h2⟩ | h)
      · left
        rw [if_pos h1, h2]
        simp
      · exact .inr h

theorem Fresh.tail {l : List Oper} (h : Fresh (o :: l) st) : Fresh l st := by
  refine ⟨fun o' ho' => h.1 o' (by simp [ho']), ?_⟩
  have := h.2
  rw [makes_cons] at this
  exact (List.nodup_append.1 this).2.1

theorem Fresh.step {l : List Oper} (h : Fresh (o :: l) st) (hok : okOper N o = true) (ho : OutG P rg o st v f) : Fresh l ((st.eff f).put o.dst v) := by
  refine ⟨fun o' ho' hm t ht => ?_, h.tail.2⟩
  refine outG_Free hok (fun hm' e => ?_) (h.1 o' (by simp [ho']) hm t ht) ho
  have := h.2
  rw [makes_cons] at this
  exact (List.nodup_append.1 this).2.2 t (by rw [if_pos hm', e]; simp) t (mem_makes.2 ⟨o', ho', hm, ht⟩) rfl

/-- In the text's order. -/
theorem text_sound (hN : N ≤ base) {ops : Array Oper} (hops : rg.ops = ops) {Q : Exit → Act → World → Prop} {K : St → Prop} (hQ : ∀ st a w, Rel w0 S0 own H X N st a w → K st → Q .normal a w) :
    ∀ (l : List Nat) (os : List Oper) (st : St) (a : Act) (w : World), l.map (fun i => ops[i]?) = os.map some → (∀ o ∈ os, okOper N o = true) → Rel w0 S0 own H X N st a w → Fresh os st → wpL P rg os st K → wpOps P ops Q l a w
  | [], [], st, a, w, _, _, hr, _, h => by
    rw [wpL] at h
    exact hQ st a w hr h
  | [], _ :: _, _, _, _, h, _, _, _, _ => by simp at h
  | _ :: _, [], _, _, _, h, _, _, _, _ => by simp at h
  | i :: l, o :: os, st, a, w, hl, hok, ⟨m, cap, S, hr, hH⟩, hf, h => by
    simp only [List.map_cons, List.cons.injEq] at hl
    obtain ⟨v, f, h1, h2⟩ := wpL_out h
    rw [wpOps_cons]
    exact outG_wp hops hl.1 hN (hok o (by simp)) hr hH (hf.1 o (by simp)) h1 fun a' w' hr' => text_sound hN hops hQ l os _ a' w' hl.2 (fun o' ho' => hok o' (by simp [ho'])) hr' (hf.step (hok o (by simp)) h1) h2

/-! ### swapping neighbours -/
/-- May these two be swapped? -/
def sw (rg : Rg) (x y : Oper) : Bool := x.apart rg.ops y && !(loudW rg x && peeks y.op) && !(peeks x.op && loudW rg y) && !(loudW rg x && loudW rg y)

def effAt (id : Id) : Eff → Option (Option Ob)
  | [] => none
  | (i, o) :: l => match effAt id l with
    | some r => some r
    | none => if id = i then some o else none

theorem eff_effAt (id : Id) : ∀ (f : Eff) (s : St), (s.eff f).ob id = (effAt id f).getD (s.ob id)
  | [], s => rfl
  | (i, o) :: l, s => by
    simp only [St.eff]
    rw [eff_effAt id l]
    simp only [effAt]
    cases effAt id l with
    | some r => rfl
    | none =>
      simp only [Option.getD_none, St.setOb]
      by_cases h : id = i <;> simp [h]
theorem effAt_mem {id : Id} : ∀ {f : Eff} {r : Option Ob}, effAt id f = some r → ∃ e ∈ f, e.1 = id
  | [], r, h => by simp [effAt] at h
  | (i, o) :: l, r, h => by
    unfold effAt at h
    cases hl : effAt id l with
    | some r' =>
      obtain ⟨e, he, h2⟩ := effAt_mem hl
      exact ⟨e, by simp [he], h2⟩
    | none =>
      rw [hl] at h
      dsimp only at h
      split at h
      · rename_i hid
        exact ⟨(i, o), by simp, hid.symm⟩
      · cases h

theorem St.ext' {s s' : St} (h1 : ∀ t, s.tm t = s'.tm t) (h2 : ∀ id, s.ob id = s'.ob id) (h3 : s.gh = s'.gh) : s = s' := by
  cases s; cases s'
  congr
  · exact funext h1
  · exact funext h2

theorem tm_put' {s : St} {dst : Option Nat} {t : Nat} : (s.put dst v).tm t = if dst = some t then v else s.tm t := by
  cases dst with
  | none => simp [St.put]
  | some u =>
    simp only [St.put, Option.some.injEq]
    by_cases h : t = u
    · simp [h]
    · rw [if_neg h, if_neg (fun e => h e.symm)]

theorem commute {dx dy : Option Nat} {vx vy : AV} {fx fy : Eff} (hd : ∀ t, dx = some t → dy ≠ some t) (hk : ∀ id, (∃ e ∈ fx, e.1 = id) → (∃ e ∈ fy, e.1 = id) → False) :
    (((st.eff fx).put dx vx).eff fy).put dy vy = (((st.eff fy).put dy vy).eff fx).put dx vx := by
  refine St.ext' (fun t => ?_) (fun id => ?_) (by rw [gh_put, eff_gh, gh_put, eff_gh, gh_put, eff_gh, gh_put, eff_gh])
  · rw [tm_put', eff_tm, tm_put', eff_tm, tm_put', eff_tm, tm_put', eff_tm]
    by_cases h1 : dx = some t
    · have := hd t h1
      simp only [if_pos h1, if_neg this]
    · rw [if_neg h1]
      simp [h1]
  · simp only [ob_put]
    rw [eff_effAt, ob_put, eff_effAt, eff_effAt, ob_put, eff_effAt]
    cases hx : effAt id fx with
    | none => simp
    | some r =>
      cases hy : effAt id fy with
      | none => simp
      | some r' => exact (hk id (effAt_mem hx) (effAt_mem hy)).elim

theorem swap {x y : Oper} {vx vy : AV} {fx fy : Eff} (hsw : sw rg x y = true) (hx : okOper N x = true) (hy : okOper N y = true) (fx' : mkO x.op = true → ∀ t, x.dst = some t → st.Free (·.1 = t)) (fy' : mkO y.op = true → ∀ t, y.dst = some t → st.Free (·.1 = t))
    (h1 : OutG P rg x st vx fx) (h2 : OutG P rg y ((st.eff fx).put x.dst vx) vy fy) :
    OutG P rg y st vy fy ∧ OutG P rg x ((st.eff fy).put y.dst vy) vx fx ∧ (((st.eff fx).put x.dst vx).eff fy).put y.dst vy = (((st.eff fy).put y.dst vy).eff fx).put x.dst vx := by
  unfold sw at hsw
  simp only [Bool.and_eq_true, Bool.not_eq_true', Bool.and_eq_false_iff] at hsw
  obtain ⟨⟨⟨hap, c1⟩, c2⟩, c3⟩ := hsw
  obtain ⟨a1, a2, a3⟩ := Oper.apart_spec hap
  have atx := outG_at hx h1
  have free1 : ∀ {z : Oper} {q : Nat → Prop}, (mkO z.op = true → ∀ t, z.dst = some t → st.Free (·.1 = t)) → st.Free (fun id => mkO z.op = true ∧ z.dst = some id.1) := by
    intro z q hz
    by_cases hm : mkO z.op = true
    · cases hd : z.dst with
      | none =>
        have e : (fun id : Id => mkO z.op = true ∧ (none : Option Nat) = some id.1) = fun _ => False := by funext id; simp
        rw [e]
        exact ⟨fun t => AV.free_false _, fun t => AV.free_false _, fun _ _ _ => AV.frees_false _, fun _ h => h.elim⟩
      | some t => exact (hz hm t hd).mono fun id hid => by have := hid.2; simp at this; exact this.symm
    · have e : (fun id : Id => mkO z.op = true ∧ z.dst = some id.1) = fun _ => False := by funext id; simp [hm]
      rw [e]
      exact ⟨fun t => AV.free_false _, fun t => AV.free_false _, fun _ _ _ => AV.frees_false _, fun _ h => h.elim⟩
  have frx := free1 (q := fun _ => True) fx'
  have fry := free1 (q := fun _ => True) fy'
  have agree : ∀ {z y : Oper} {vz : AV} {fz : Eff}, okOper N z = true → OutG P rg z st vz fz → loudW rg z = false → Agree (fun id => mkO z.op = true ∧ z.dst = some id.1) st ((st.eff fz).put z.dst vz) := by
    intro z y vz fz hz h hl id hid
    have hat := outG_at hz h
    rw [ob_put, eff_not fun hm => ?_]
    obtain ⟨e, he, rfl⟩ := List.mem_map.1 hm
    rcases hat e he with hh | ⟨hh, _⟩
    · exact hid hh
    · rw [hl] at hh; cases hh
  have hy2 : OutG P rg y st vy fy := by
    refine (outG_congr (p := fun id => mkO x.op = true ∧ x.dst = some id.1) (st := st) (st2 := (st.eff fx).put x.dst vx) (fun t ht => ?_) (fun hpk => ?_)).2 h2
    · rw [tm_put', eff_tm, if_neg fun e => a1 t e ht]
    · have hl : loudW rg x = false := by rcases c1 with c1 | c1; exact c1; rw [hpk] at c1; cases c1
      exact ⟨agree (y := y) hx h1 hl, frx⟩
  have aty := outG_at hy hy2
  refine ⟨hy2, ?_, commute a2 fun id ⟨e1, he1, i1⟩ ⟨e2, he2, i2⟩ => ?_⟩
  · refine (outG_congr (p := fun id => mkO y.op = true ∧ y.dst = some id.1) (st := st) (st2 := (st.eff fy).put y.dst vy) (fun t ht => ?_) (fun hpk => ?_)).1 h1
    · rw [tm_put', eff_tm, if_neg fun e => a3 t e ht]
    · have hl : loudW rg y = false := by rcases c2 with c2 | c2; rw [hpk] at c2; cases c2; exact c2
      exact ⟨agree (y := x) hy hy2 hl, fry⟩
  · have k1 := atx e1 he1
    have k2 := aty e2 he2
    rw [i1] at k1
    rw [i2] at k2
    rcases k1 with k1 | ⟨k1, k1'⟩ <;> rcases k2 with k2 | ⟨k2, k2'⟩
    · exact a2 id.1 k1.2 k2.2
    · exact k2' (frx.none id k1)
    · exact k1' (fry.none id k2)
    · rcases c3 with c3 | c3
      · rw [k1] at c3; cases c3
      · rw [k2] at c3; cases c3

/-- An operation is moved to the front. -/
theorem front {K : St → Prop} {y : Oper} {post : List Oper} : ∀ (pre : List Oper) (st : St), (∀ x ∈ pre, sw rg x y = true) → (∀ x ∈ pre ++ y :: post, okOper N x = true) → Fresh (pre ++ y :: post) st → wpL P rg (pre ++ y :: post) st K → wpL P rg (y :: (pre ++ post)) st K
  | [], st, _, _, _, h => h
  | x :: pre, st, hs, hok, hf, h => by
    obtain ⟨vx, fx, h1, h2⟩ := wpL_out h
    have hxok := hok x (by simp)
    have ih := front pre _ (fun z hz => hs z (by simp [hz])) (fun z hz => hok z (by simp only [List.cons_append, List.mem_cons]; exact .inr hz)) (hf.step hxok h1) h2
    obtain ⟨vy, fy, h3, h4⟩ := wpL_out ih
    obtain ⟨g1, g2, g3⟩ := swap (hs x (by simp)) hxok (hok y (by simp)) (hf.1 x (by simp)) (hf.1 y (by simp)) h1 h3
    rw [g3] at h4
    exact out_wpL g1 (out_wpL g2 h4)

theorem makes_append (l l' : List Oper) : makes (l ++ l') = makes l ++ makes l' := by
  induction l with
  | nil => rfl
  | cons o l ih => rw [List.cons_append, makes_cons, makes_cons, ih, List.append_assoc]

theorem Fresh.front {y : Oper} {pre post : List Oper} (h : Fresh (pre ++ y :: post) st) : Fresh (y :: (pre ++ post)) st := by
  refine ⟨fun o ho => h.1 o ?_, ?_⟩
  · simp only [List.mem_cons, List.mem_append] at ho ⊢
    rcases ho with ho | ho | ho
    · exact .inr (.inl ho)
    · exact .inl ho
    · exact .inr (.inr ho)
  · have := h.2
    rw [makes_append, makes_cons] at this
    rw [makes_cons, makes_append]
    exact (List.perm_append_comm_assoc _ _ _).nodup_iff.1 this

/-! ### drawn orders -/
/-- j comes before i in every order. -/
inductive Before (ops : Array Oper) : Nat → Nat → Prop
  | one {i : Nat} {o : Oper} {e : Edge} (hi : ops[i]? = some o) (he : e ∈ o.after) (hb : Region.binds .any e = true) : Before ops e.on i
  | more {i j : Nat} {o : Oper} {e : Edge} (hi : ops[i]? = some o) (he : e ∈ o.after) (hb : Region.binds .any e = true) (h : Before ops j e.on) : Before ops j i

/-- A list of indices that is closed under what binds. -/
theorem Before.listed {ops : Array Oper} {p : Nat → Prop} (hp : ∀ i o, ops[i]? = some o → p i → ∀ e ∈ o.after, Region.binds .any e = true → p e.on) {i j : Nat} (h : Before ops j i) :
    (∀ o, ops[i]? = some o → ∀ e ∈ o.after, Region.binds .any e = true → p e.on) → p j := by
  induction h with
  | one hi he hb => exact fun h => h _ hi _ he hb
  | more hi he hb _ ih => exact fun h => ih fun o ho => hp _ o ho (h _ hi _ he hb)

theorem mem_ins {x y : Nat} {l : List Nat} (h : x ∈ (if l.contains y then l else y :: l)) : x = y ∨ x ∈ l := by
  split at h
  · exact .inr h
  · simpa using h

def insA (l : List Nat) (y : Nat) : List Nat := if l.contains y then l else y :: l
theorem mem_foldl_ins {x : Nat} : ∀ {ys l : List Nat}, x ∈ ys.foldl insA l → x ∈ ys ∨ x ∈ l
  | [], l, h => .inr h
  | y :: ys, l, h => by
    rcases mem_foldl_ins (ys := ys) h with h | h
    · exact .inl (by simp [h])
    · rcases mem_ins h with h | h
      · exact .inl (by simp [h])
      · exact .inr h

/-- What comes before an operation, by what comes before those that it waits for. -/
def befOf (acc : List (List Nat)) (o : Oper) : List Nat := ((o.after.toList.filter (Region.binds .any)).flatMap fun e => e.on :: acc.getD e.on []).foldl insA []

def befs (acc : List (List Nat)) : List Oper → List (List Nat)
  | [] => acc
  | o :: l => befs (acc ++ [befOf acc o]) l

theorem befs_ok {ops : Array Oper} : ∀ {l : List Oper} {acc : List (List Nat)}, (∀ k o, l[k]? = some o → ops[acc.length + k]? = some o) → (∀ i, ∀ j ∈ acc.getD i [], Before ops j i) → ∀ i, ∀ j ∈ (befs acc l).getD i [], Before ops j i
  | [], acc, _, h => h
  | o :: l, acc, hl, h => by
    unfold befs
    refine befs_ok (fun k o' hk => ?_) (fun i j hj => ?_)
    · have := hl (k + 1) o' (by simpa using hk)
      simpa [Nat.add_assoc, Nat.add_comm 1 k] using this
    · rcases Nat.lt_trichotomy i acc.length with hi | hi | hi
      · refine h i j ?_
        simpa [List.getD_eq_getElem?_getD, List.getElem?_append_left hi] using hj
      · subst hi
        have hj' : j ∈ befOf acc o := by simpa [List.getD_eq_getElem?_getD] using hj
        have ho := hl 0 o rfl
        simp only [Nat.add_zero] at ho
        unfold befOf at hj'
        rcases mem_foldl_ins hj' with hj' | hj'
        · obtain ⟨e, he, hje⟩ := List.mem_flatMap.1 hj'
          obtain ⟨he1, he2⟩ := List.mem_filter.1 he
          have he1' : e ∈ o.after := by simpa using he1
          rcases List.mem_cons.1 hje with rfl | hje
          · exact .one ho he1' he2
          · exact .more ho he1' he2 (h _ _ hje)
        · simp at hj'
      · have : (acc ++ [befOf acc o])[i]? = none := List.getElem?_eq_none (by simp; omega)
        simp [List.getD_eq_getElem?_getD, this] at hj

def opAt (ops : Array Oper) (i : Nat) : Oper := ops.getD i default

/-- What is asked of a region whose order is drawn. -/
def okDrawn (rg : Rg) : Bool :=
  let bs := befs [] rg.ops.toList
  (List.range rg.ops.size).all fun i => (opAt rg.ops i).after.toList.all (fun e => !(Region.binds .any e) || decide (e.on < i)) && (List.range i).all fun j => sw rg (opAt rg.ops j) (opAt rg.ops i) || (bs.getD i []).contains j

theorem opAt_some {ops : Array Oper} {i : Nat} (h : i < ops.size) : ops[i]? = some (opAt ops i) := by
  unfold opAt
  rw [Array.getElem?_eq_getElem h]
  simp [h]

theorem okDrawn_inv {rg : Rg} (h : okDrawn rg = true) {i : Nat} (hi : i < rg.ops.size) : (∀ e ∈ (opAt rg.ops i).after, Region.binds .any e = true → e.on < i) ∧ ∀ j < i, sw rg (opAt rg.ops j) (opAt rg.ops i) = true ∨ Before rg.ops j i := by
  unfold okDrawn at h
  simp only [List.all_eq_true, List.mem_range, Bool.and_eq_true, Bool.or_eq_true, Bool.not_eq_true', decide_eq_true_eq] at h
  obtain ⟨h1, h2⟩ := h i hi
  refine ⟨fun e he hb => ?_, fun j hj => ?_⟩
  · rcases h1 e (by simpa using he) with h1 | h1
    · rw [hb] at h1; cases h1
    · exact h1
  · rcases h2 j hj with h2 | h2
    · exact .inl h2
    · right
      exact befs_ok (ops := rg.ops) (l := rg.ops.toList) (acc := []) (fun k o hk => by simpa using hk) (fun i j hj => by simp at hj) i j (by simpa using h2)

theorem drawn_sound (hN : N ≤ base) (hd : okDrawn rg = true) {Q : Exit → Act → World → Prop} {K : St → Prop} (hQ : ∀ st a w, Rel w0 S0 own H X N st a w → K st → Q .normal a w) (hok : ∀ i < rg.ops.size, okOper N (opAt rg.ops i) = true) :
    ∀ (n : Nat) (l : List Nat) (listed : Array Bool) (st : St) (a : Act) (w : World), l.length = n → l.Pairwise (· < ·) → (∀ i ∈ l, i < rg.ops.size) → listed.size = rg.ops.size → (∀ i < rg.ops.size, listed.getD i true = false ↔ i ∈ l) →
      (∀ i < rg.ops.size, i ∉ l → ∀ e ∈ (opAt rg.ops i).after, Region.binds .any e = true → e.on ∉ l) → Rel w0 S0 own H X N st a w → Fresh (l.map (opAt rg.ops)) st → wpL P rg (l.map (opAt rg.ops)) st K → wpAny P .any rg.ops Q n listed a w := by
  intro n
  induction n with
  | zero =>
    intro l listed st a w hl hs hlt hsz hli hcl hr hf h
    have hnil : l = [] := List.length_eq_zero_iff.1 hl
    subst hnil
    refine ⟨?_, ?_⟩
    · rw [List.eq_nil_iff_forall_not_mem]
      intro i hi
      obtain ⟨h0, o, ho, _⟩ := mem_ready.1 hi
      have hlt' := (Array.getElem?_eq_some_iff.1 ho).1
      exact absurd ((hli i hlt').1 h0) (by simp)
    · simp only [List.map_nil] at h
      rw [wpL] at h
      exact hQ st a w hr h
  | succ n ih =>
    intro l listed st a w hl hs hlt hsz hli hcl hr hf h
    have hlisted : ∀ j < rg.ops.size, listed.getD j false = true ↔ j ∉ l := fun j hj => by
      have h1 := hli j hj
      have hj' : j < listed.size := by omega
      simp only [Array.getD_eq_getD_getElem?, Array.getElem?_eq_getElem hj', Option.getD_some] at h1 ⊢
      rw [← h1]
      cases listed[j] <;> simp
    refine ⟨fun hnil => ?_, fun i hi => ?_⟩
    · exfalso
      cases l with
      | nil => simp at hl
      | cons i l =>
        have hi := hlt i (by simp)
        have : i ∈ Region.ready .any rg.ops listed := by
          refine mem_ready.2 ⟨(hli i hi).2 (by simp), opAt rg.ops i, opAt_some hi, fun e he hb => ?_⟩
          have hlt2 := (okDrawn_inv hd hi).1 e he hb
          refine (hlisted e.on (by omega)).2 fun hm => ?_
          rcases List.mem_cons.1 hm with hm | hm
          · omega
          · have := (List.pairwise_cons.1 hs).1 _ hm
            omega
        rw [hnil] at this
        cases this
    · obtain ⟨h0, o, ho, hall⟩ := mem_ready.1 hi
      have hisz := (Array.getElem?_eq_some_iff.1 ho).1
      have ho' : o = opAt rg.ops i := by have := opAt_some hisz; rw [ho] at this; exact Option.some.inj this
      subst ho'
      have hil : i ∈ l := (hli i hisz).1 h0
      obtain ⟨pre, post, rfl⟩ := List.append_of_mem hil
      have hpre : ∀ j ∈ pre, j < i := fun j hj => (List.pairwise_append.1 hs).2.2 j hj i (by simp)
      have hpost : ∀ j ∈ post, i < j := fun j hj => (List.pairwise_cons.1 (List.pairwise_append.1 hs).2.1).1 j hj
      have hready : ∀ o, rg.ops[i]? = some o → ∀ e ∈ o.after, Region.binds .any e = true → e.on < rg.ops.size ∧ e.on ∉ pre ++ i :: post := fun o hoi e he hb => by
        rw [ho] at hoi
        cases hoi
        have hlt2 := (okDrawn_inv hd hisz).1 e he hb
        exact ⟨by omega, (hlisted e.on (by omega)).1 (hall e he hb)⟩
      have hsw : ∀ x ∈ pre.map (opAt rg.ops), sw rg x (opAt rg.ops i) = true := fun x hx => by
        obtain ⟨j, hj, rfl⟩ := List.mem_map.1 hx
        rcases (okDrawn_inv hd hisz).2 j (hpre j hj) with hh | hh
        · exact hh
        · exfalso
          have := hh.listed (p := fun k => k < rg.ops.size ∧ k ∉ pre ++ i :: post) (fun k o hk hp e he hb => by
            have hk' : o = opAt rg.ops k := by have := opAt_some hp.1; rw [hk] at this; exact Option.some.inj this
            subst hk'
            have hlt2 := (okDrawn_inv hd hp.1).1 e he hb
            exact ⟨by omega, hcl k hp.1 hp.2 e he hb⟩) hready
          exact this.2 (by simp [hj])
      rw [List.map_append, List.map_cons] at h hf
      have h2 := front (N := N) (pre.map (opAt rg.ops)) st hsw (fun x hx => by
        rw [← List.map_cons, ← List.map_append] at hx
        obtain ⟨j, hj, rfl⟩ := List.mem_map.1 hx
        exact hok j (hlt j hj)) hf h
      have hf2 := hf.front
      obtain ⟨v, f, g1, g2⟩ := wpL_out h2
      obtain ⟨m, cap, S, hr, hH⟩ := hr
      refine outG_wp rfl ho hN (hok i hisz) hr hH (hf2.1 _ (by simp)) g1 fun a' w' hr' => ?_
      have hni : ∀ {j}, j ∈ pre ++ post → j ≠ i := fun {j} hj => by
        rcases List.mem_append.1 hj with hj | hj
        · have := hpre j hj; omega
        · have := hpost j hj; omega
      refine ih (pre ++ post) (listed.setIfInBounds i true) _ a' w' (by simp at hl ⊢; omega) ?_ (fun j hj => hlt j (by simp at hj ⊢; rcases hj with hj | hj; exact .inl hj; exact .inr (.inr hj))) (by simpa using hsz) (fun j hj => ?_) (fun j hj hjl e he hb => ?_) hr' ?_ ?_
      · obtain ⟨s1, s2, s3⟩ := List.pairwise_append.1 hs
        exact List.pairwise_append.2 ⟨s1, (List.pairwise_cons.1 s2).2, fun x hx y hy => s3 x hx y (by simp [hy])⟩
      · by_cases hji : j = i
        · subst hji
          have h1 : (listed.setIfInBounds j true).getD j true = true := by
            have : j < listed.size := by omega
            simp [Array.getD_eq_getD_getElem?, this]
          rw [h1]
          constructor
          · intro h; cases h
          · intro h; exact absurd rfl (hni h)
        · rw [getD_set_ne true (fun e => hji e.symm), hli j hj]
          simp [hji]
      · by_cases hji : j = i
        · subst hji
          have := (hready _ ho e he hb).2
          simp only [List.mem_append, List.mem_cons, not_or] at this ⊢
          exact ⟨this.1, this.2.2⟩
        · have := hcl j hj (by
            simp only [List.mem_append, List.mem_cons, not_or] at hjl ⊢
            exact ⟨hjl.1, hji, hjl.2⟩) e he hb
          simp only [List.mem_append, List.mem_cons, not_or] at this ⊢
          exact ⟨this.1, this.2.2⟩
      · rw [List.map_append]
        exact hf2.step (hok i hisz) g1
      · rw [List.map_append]
        exact g2

end Cal

/- A calculus of our own, twenty-ninth part: code. No program is named here. -/
set_option linter.unusedSimpArgs false
set_option linter.unusedVariables false
namespace Cal
open Go Go.RowKit

variable {P : Program} {w0 w : World} {S0 S S2 : Nat → Prop} {own : List Nat} {H : Nat → Nat × Nat} {X : Nat → Value} {N : Nat} {m cap : Id → Nat} {st st2 : St} {a : Act} {d : Nat} {rg : Rg} {o : Oper} {v : AV} {f : Eff} {p : Id → Prop}

/-- What is asked of a region. -/
def okRegion (N : Nat) (rg : Rg) : Bool := rg.ops.toList.all (okOper N) && decide (makes rg.ops.toList).Nodup && (!rg.drawn || okDrawn rg)

/-- What is asked of code. -/
def okCode (N : Nat) (lo : Nat → List Nat) : Code → Bool
  | .skip => true
  | .region id ops dr => okRegion N ⟨ops, dr, lo id⟩
  | .seq x y => okCode N lo x && okCode N lo y
  | .cond _ x y => okCode N lo x && okCode N lo y
  | .block _ c => okCode N lo c
  | .loop c => okCode N lo c
  | .exit _ => true
  | .ret => true
  | _ => false

/-- How code ends, in the machine. -/
def RQ (w0 : World) (S0 : Nat → Prop) (own : List Nat) (H : Nat → Nat × Nat) (X : Nat → Value) (N : Nat) (Q : Ex → St → Prop) : Exit → Act → World → Prop
  | .normal, a, w => ∃ st, Rel w0 S0 own H X N st a w ∧ Q .normal st
  | .exit id, a, w => ∃ st, Rel w0 S0 own H X N st a w ∧ Q (.exit id) st
  | .ret, a, w => ∃ st, Rel w0 S0 own H X N st a w ∧ Q .ret st
  | _, _, _ => False

theorem Rel.kill (h : Rel w0 S0 own H X N st a w) (ds : List Nat) : Rel w0 S0 own H X N (st.kill ds) a w := by
  obtain ⟨m, cap, S, h1, h2⟩ := h
  exact ⟨m, cap, S, h1.kill ds, h2⟩

theorem Rel.drawn (h : Rel w0 S0 own H X N st a w) (n : Nat) : Rel w0 S0 own H X N st a { w with drawn := n } := by
  obtain ⟨m, cap, S, h1, h2⟩ := h
  refine ⟨m, cap, S, h1.called (w' := { w with drawn := n }) (st' := st) (bl := []) ⟨h1.fixed (by simp), rfl, rfl, rfl, Nat.le_refl _, fun _ _ _ => rfl⟩ (by simp) (fun _ hb => hb) (fun b hb => ⟨h1.stab b hb, .inl hb⟩) (by simp) rfl rfl (fun id => .inl ⟨rfl, by simp⟩), h2⟩

theorem fresh_kill {os : List Oper} (hn : (makes os).Nodup) : Fresh os (st.kill (makes os)) :=
  ⟨fun o ho hm t ht => (St.kill_free st (makes os)).mono fun id hid => by rw [hid]; exact mem_makes.2 ⟨o, ho, hm, ht⟩, hn⟩

theorem toList_opAt (ops : Array Oper) : ops.toList = (List.range ops.size).map (opAt ops) := by
  apply List.ext_getElem?
  intro i
  rw [Array.getElem?_toList, List.getElem?_map]
  by_cases h : i < ops.size
  · rw [List.getElem?_range h, opAt_some h]
    rfl
  · rw [List.getElem?_eq_none (by simpa using h), Array.getElem?_eq_none (by omega)]
    rfl

theorem region_sound (hm : P.follows .mixedOrders = true) (hN : N ≤ base) {id : Nat} {ops : Array Oper} {dr : Bool} {lo : List Nat} (hok : okRegion N ⟨ops, dr, lo⟩ = true) {Q : Ex → St → Prop} (hr : Rel w0 S0 own H X N st a w)
    (h : wpL P ⟨ops, dr, lo⟩ ops.toList (st.kill (makes ops.toList)) (Q .normal)) : (Code.region id ops dr).wp P (RQ w0 S0 own H X N Q) a w := by
  unfold okRegion at hok
  simp only [Bool.and_eq_true, decide_eq_true_eq, Bool.or_eq_true, Bool.not_eq_true', List.all_eq_true] at hok
  obtain ⟨⟨h1, h2⟩, h3⟩ := hok
  have hok' : ∀ i < ops.size, okOper N (opAt ops i) = true := fun i hi => h1 _ (by
    have := opAt_some hi
    exact Array.mem_toList_iff.2 (Array.mem_of_getElem? this))
  have hQ : ∀ st a w, Rel w0 S0 own H X N st a w → Q .normal st → RQ w0 S0 own H X N Q .normal a w := fun st a w hr hq => ⟨st, hr, hq⟩
  cases dr with
  | false =>
    refine wp_region (text_sound (rg := ⟨ops, false, lo⟩) hN rfl hQ (List.range ops.size) ops.toList _ a w ?_ h1 (hr.kill _) (fresh_kill h2) h)
    rw [toList_opAt ops, List.map_map]
    exact List.map_congr_left fun i hi => opAt_some (List.mem_range.1 hi)
  | true =>
    have hd : okDrawn ⟨ops, true, lo⟩ = true := by
      rcases h3 with h3 | h3
      · cases h3
      · exact h3
    refine wp_region_any hm (drawn_sound (rg := ⟨ops, true, lo⟩) hN hd hQ hok' ops.size (List.range ops.size) _ _ a _ (by simp) List.pairwise_lt_range (fun i hi => List.mem_range.1 hi) (by simp) (fun i hi => ?_) (fun i hi hni => absurd (List.mem_range.2 hi) hni) ((hr.kill (makes ops.toList)).drawn _) ?_ ?_)
    · simp only at hi
      simp [Array.getD_eq_getD_getElem?, hi]
    · show Fresh ((List.range ops.size).map (opAt ops)) _
      rw [← toList_opAt]
      exact fresh_kill h2
    · show wpL P _ ((List.range ops.size).map (opAt ops)) _ _
      rw [← toList_opAt]
      exact h

theorem code_sound (hm : P.follows .mixedOrders = true) (hN : N ≤ base) (lo : Nat → List Nat) : ∀ (c : Code) {Q : Ex → St → Prop} {st : St} {a : Act} {w : World}, okCode N lo c = true → Rel w0 S0 own H X N st a w → wpC P lo c Q st → c.wp P (RQ w0 S0 own H X N Q) a w
  | .skip, Q, st, a, w, _, hr, h => wp_skip ⟨st, hr, by rw [wpC_skip] at h; exact h⟩
  | .region id ops dr, Q, st, a, w, hok, hr, h => region_sound hm hN hok hr (by rw [wpC_region] at h; exact h)
  | .seq x y, Q, st, a, w, hok, hr, h => by
    unfold okCode at hok
    simp only [Bool.and_eq_true] at hok
    rw [wpC] at h
    refine wp_seq (wp_mono (code_sound hm hN lo x hok.1 hr h) fun e a' w' he => ?_)
    cases e with
    | normal =>
      obtain ⟨st', hr', h'⟩ := he
      exact code_sound hm hN lo y hok.2 hr' h'
    | exit id => exact he
    | ret => exact he
    | goto l => exact he.elim
    | panic c => exact he.elim
    | outgrown => exact he.elim
  | .cond c x y, Q, st, a, w, hok, hr, h => by
    unfold okCode at hok
    simp only [Bool.and_eq_true] at hok
    rw [wpC] at h
    obtain ⟨b, hb, h⟩ := h
    have hev : a.eval c = .bool b := by
      obtain ⟨m, cap, S, hr, _⟩ := hr
      have := hr.ev c
      unfold boolA at hb
      split at hb
      · rename_i b' hb'
        cases hb
        rw [hb'] at this
        exact (AVrep_v_inv this).1
      · cases hb
    refine wp_cond hev ?_
    cases b with
    | true => exact code_sound hm hN lo x hok.1 hr h
    | false => exact code_sound hm hN lo y hok.2 hr h
  | .block id c, Q, st, a, w, hok, hr, h => by
    unfold okCode at hok
    rw [wpC] at h
    refine wp_block (wp_mono (code_sound hm hN lo c hok hr h) fun e a' w' he => ?_)
    cases e with
    | normal => exact he
    | exit i =>
      obtain ⟨st', hr', h'⟩ := he
      unfold Exit.inBlock
      dsimp only at h' ⊢
      split
      · rename_i hi; rw [if_pos hi] at h'; exact ⟨st', hr', h'⟩
      · rename_i hi; rw [if_neg hi] at h'; exact ⟨st', hr', h'⟩
    | ret => exact he
    | goto l => exact he.elim
    | panic c => exact he.elim
    | outgrown => exact he.elim
  | .loop c, Q, st, a, w, hok, hr, h => by
    unfold okCode at hok
    rw [wpC] at h
    obtain ⟨I, μ, h0, h1⟩ := h
    -- the least measure of a state that stands for this frame and world
    let J : Act → World → Nat → Prop := fun a w n => ∃ st, Rel w0 S0 own H X N st a w ∧ I st ∧ μ st = n
    classical
    have least : ∀ a w, (∃ n, J a w n) → ∃ n, J a w n ∧ ∀ k, J a w k → n ≤ k := fun a w ⟨n, hn⟩ => by
      induction n using Nat.strongRecOn with
      | _ n ih =>
        by_cases hlt : ∃ k, k < n ∧ J a w k
        · obtain ⟨k, hk1, hk2⟩ := hlt
          exact ih k hk1 hk2
        · exact ⟨n, hn, fun k hk => Nat.le_of_not_lt fun hlt' => hlt ⟨k, hlt', hk⟩⟩
    let μ' : Act → World → Nat := fun a w => if hex : ∃ n, J a w n then (least a w hex).choose else 0
    refine wp_loop (fun a w => ∃ n, J a w n) μ' ⟨μ st, st, hr, h0, rfl⟩ fun a w hex => ?_
    have hμ : μ' a w = (least a w hex).choose := by simp only [μ', dif_pos hex]
    obtain ⟨⟨st1, hr1, hI1, hm1⟩, _⟩ := (least a w hex).choose_spec
    refine wp_mono (code_sound hm hN lo c hok hr1 (h1 st1 hI1)) fun e a' w' he => ?_
    cases e with
    | normal =>
      obtain ⟨st', hr', hI', hlt⟩ := he
      have hex' : ∃ n, J a' w' n := ⟨μ st', st', hr', hI', rfl⟩
      refine ⟨hex', ?_⟩
      have hle := (least a' w' hex').choose_spec.2 (μ st') ⟨st', hr', hI', rfl⟩
      have hμ' : μ' a' w' = (least a' w' hex').choose := by simp only [μ', dif_pos hex']
      omega
    | exit id => exact he
    | ret => exact he
    | goto l => exact he.elim
    | panic c => exact he.elim
    | outgrown => exact he.elim
  | .exit id, Q, st, a, w, _, hr, h => wp_exit ⟨st, hr, by rw [wpC_exit] at h; exact h⟩
  | .ret, Q, st, a, w, _, hr, h => wp_ret ⟨st, hr, by rw [wpC_ret] at h; exact h⟩
  | .scope c, _, _, _, _, hok, _, _ => by unfold okCode at hok; cases hok
  | .rangeFunc .., _, _, _, _, hok, _, _ => by unfold okCode at hok; cases hok
  | .label _, _, _, _, _, hok, _, _ => by unfold okCode at hok; cases hok
  | .goto _, _, _, _, _, hok, _, _ => by unfold okCode at hok; cases hok
  | .refuse _, _, _, _, _, hok, _, _ => by unfold okCode at hok; cases hok

end Cal
