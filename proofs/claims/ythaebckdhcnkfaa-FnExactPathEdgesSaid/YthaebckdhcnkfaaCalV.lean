/- A calculus of our own, twenty-first part: of what an operation depends. No program is named here. -/
import Derived.Test.YthaebckdhcnkfaaCalU
import Derived.Orders
set_option linter.unusedSimpArgs false
set_option linter.unusedVariables false
namespace Cal
open Go Go.RowKit

variable {P : Program} {st st2 : St} {p : Id → Prop}

/-- Does an operation look at objects? -/
def peeks : Op → Bool
  | .load .. => true
  | .store .. => true
  | .buildSlice .. => true
  | .call { callee := .builtin .append, .. } => true
  | .call { callee := .value _, .. } => true
  | _ => false

/-- The states have the same objects, but for those that p has. -/
def Agree (p : Id → Prop) (st st2 : St) : Prop := ∀ id, ¬ p id → st.ob id = st2.ob id

theorem toT_congr (h : Agree p st st2) {v : AV} (hv : v.free p) : st.toT v = st2.toT v := by
  cases v with
  | row id sz i n =>
    unfold AV.free at hv
    simp only [St.toT, h id hv]
  | _ => rfl
theorem toTs_congr (h : Agree p st st2) : ∀ {vs : List AV}, AV.frees p vs → st.toTs vs = st2.toTs vs
  | [], _ => rfl
  | v :: vs, hv => by
    unfold AV.frees at hv
    unfold St.toTs
    rw [toT_congr h hv.1, toTs_congr h hv.2]
theorem frzEff_congr (h : Agree p st st2) {v : AV} (hv : v.free p) : st.frzEff v = st2.frzEff v := by
  cases v with
  | row id sz i n =>
    unfold AV.free at hv
    simp only [St.frzEff, h id hv]
  | _ => rfl
theorem frzEffs_congr (h : Agree p st st2) : ∀ {vs : List AV}, AV.frees p vs → st.frzEffs vs = st2.frzEffs vs
  | [], _ => rfl
  | v :: vs, hv => by
    unfold AV.frees at hv
    unfold St.frzEffs
    rw [frzEff_congr h hv.1, frzEffs_congr h hv.2]
theorem litA_congr (h : Agree p st st2) (hf : st.Free p) {size : Nat} : ∀ {ps : List (Nat × Operand)} {k : Nat}, (∀ q ∈ ps, st.ev q.2 = st2.ev q.2) → litA st size k ps = litA st2 size k ps
  | [], _, _ => rfl
  | (i, x) :: ps, k, he => by
    have hx := he (i, x) (by simp)
    simp only at hx
    have hc := AV.cells_free (hf.ev x)
    unfold litA
    rw [litA_congr h hf fun q hq => he q (by simp [hq])]
    rw [toTs_congr h hc, frzEffs_congr h hc, hx]
theorem fillA_congr {t : TypeId} : ∀ {ps : List (Nat × Operand)} {zero : List AV}, (∀ q ∈ ps, st.ev q.2 = st2.ev q.2) → fillA P t st zero ps = fillA P t st2 zero ps
  | [], _, _ => rfl
  | (i, x) :: ps, zero, he => by
    have hx := he (i, x) (by simp)
    simp only at hx
    unfold fillA
    rw [hx]
    split
    · split
      · exact fillA_congr fun q hq => he q (by simp [hq])
      · rfl
    · rfl
theorem loadA_congr (h : Agree p st st2) {ag : Bool} {size : Nat} {v : AV} (hv : v.free p) : loadA st ag size v = loadA st2 ag size v := by
  cases v with
  | ptr id i j =>
    unfold AV.free at hv
    simp only [loadA, h id hv]
  | _ => rfl
theorem storeA_congr (h : Agree p st st2) {size : Nat} {x v : AV} (hx : x.free p) (hv : v.free p) : storeA st size x v = storeA st2 size x v := by
  cases v with
  | ptr id i j =>
    unfold AV.free at hv
    simp only [storeA, h id hv, toTs_congr h (AV.cells_free hx), frzEffs_congr h (AV.cells_free hx)]
  | _ => rfl
theorem elemsA_congr (h : Agree p st st2) {size : Nat} {v : AV} (hv : v.free p) : elemsA st size v = elemsA st2 size v := by
  cases v with
  | row id sz i n =>
    unfold AV.free at hv
    simp only [elemsA, h id hv]
  | t x =>
    unfold elemsA
    split <;> first | rfl | (rename_i e; cases e)
  | _ => rfl
theorem appendA_congr (h : Agree p st st2) {d : Nat} {ti : TI} {v : AV} {es : List (List T)} (hv : v.free p) : appendA d st ti v es = appendA d st2 ti v es := by
  cases v with
  | row id sz i n =>
    unfold AV.free at hv
    cases i with
    | zero => simp only [appendA, h id hv]
    | succ i => simp only [appendA]
  | t x =>
    unfold appendA
    split
    · rfl
    · split <;> first | rfl | (rename_i e; cases e)
  | _ => rfl

theorem evOp_congr {d : Nat} {op : Op} (hx : ∀ x ∈ op.operands, st.ev x = st2.ev x) (hr : peeks op = true → Agree p st st2 ∧ st.Free p) : evOp P d st op = evOp P d st2 op := by
  cases op <;> simp only [Op.operands] at hx
  case move x => simp only [evOp, hx x (by simp)]
  case assign x => simp only [evOp, hx x (by simp)]
  case pick c a b => simp only [evOp, hx c (by simp), hx a (by simp), hx b (by simp)]
  case alloc t => rfl
  case box t x => simp only [evOp, hx x (by simp)]
  case build t ps =>
    simp only [evOp]
    simp only [show ∀ zero, fillA P t st zero ps.toList = fillA P t st2 zero ps.toList from fun zero => fillA_congr fun q hq => hx q.2 (by simp; exact ⟨q.1, by simpa using hq⟩)]
  case buildSlice t n ps =>
    simp only [evOp]
    obtain ⟨h1, h2⟩ := hr rfl
    simp only [show ∀ size, litA st size 0 ps.toList = litA st2 size 0 ps.toList from fun size => litA_congr h1 h2 fun q hq => hx q.2 (by simp; exact ⟨q.1, by simpa using hq⟩)]
  case makeSlice t x y => simp only [evOp, hx x (by simp), hx y (by simp)]
  case load t x =>
    obtain ⟨h1, h2⟩ := hr rfl
    have e := hx x (by simp)
    simp only [evOp, ← e]
    simp only [show ∀ ag size, loadA st ag size (st.ev x) = loadA st2 ag size (st.ev x) from fun ag size => loadA_congr h1 (h2.ev x)]
  case store t x y =>
    obtain ⟨h1, h2⟩ := hr rfl
    simp only [evOp, ← hx x (by simp), ← hx y (by simp)]
    simp only [show ∀ size, storeA st size (st.ev y) (st.ev x) = storeA st2 size (st.ev y) (st.ev x) from fun size => storeA_congr h1 (h2.ev y) (h2.ev x)]
  case nilCheck x => simp only [evOp, hx x (by simp)]
  case binOp op t x y t2 => simp only [evOp, hx x (by simp), hx y (by simp)]
  case unOp op t x => simp only [evOp, hx x (by simp)]
  case convert t t2 x => simp only [evOp, hx x (by simp)]
  case slice t x lo hi mx =>
    cases mx with
    | some _ => rfl
    | none =>
      cases lo <;> cases hi <;> simp only [evOp, Option.map_none, Option.map_some, hx x (by simp)]
      · rename_i y; rw [hx y (by simp)]
      · rename_i y; rw [hx y (by simp)]
      · rename_i y z; rw [hx y (by simp), hx z (by simp)]
  case fieldAddr t x f => simp only [evOp, hx x (by simp)]
  case field t x f => simp only [evOp, hx x (by simp)]
  case indexAddr t x ix => simp only [evOp, hx x (by simp), hx ix (by simp)]
  case index t x ix => simp only [evOp, hx x (by simp), hx ix (by simp)]
  case extract x i => simp only [evOp, hx x (by simp)]
  case call c =>
    obtain ⟨cl, xs, ts⟩ := c
    cases cl with
    | value f => rfl
    | invoke _ _ => rfl
    | builtin b =>
      simp only [Call.operands] at hx
      simp only [evOp]
      unfold callA
      split
      · rename_i x t h1 h2
        rw [hx x (by simp; rw [← Array.mem_toList_iff, h1]; simp)]
      · rename_i x y t t2 h1 h2
        obtain ⟨g1, g2⟩ := hr rfl
        have ex := hx x (by simp; rw [← Array.mem_toList_iff, h1]; simp)
        have ey := hx y (by simp; rw [← Array.mem_toList_iff, h1]; simp)
        rw [← ex, ← ey]
        simp only [show ∀ size, elemsA st size (st.ev y) = elemsA st2 size (st.ev y) from fun size => elemsA_congr g1 (g2.ev y)]
        simp only [show ∀ i es, appendA d st i (st.ev x) es = appendA d st2 i (st.ev x) es from fun i es => appendA_congr g1 (g2.ev x)]
      · rfl
  all_goals rfl

end Cal
