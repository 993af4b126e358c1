/- A calculus of our own: more rules for reckoning: appends, slice literals. -/
import Derived.Test.YthaebckdhcnkfaaSim
import Derived.Test.YthaebckdhcnkfaaCalZi
set_option linter.unusedSimpArgs false
set_option linter.unusedVariables false
namespace Cal
open Go Go.Proofs
def appendR (ob : Option Ob) (d : Nat) (id : Id) (n : Nat) (es : List (List T)) : Option (AV × Eff) :=
  match ob with
  | some (.row sz fs) => if sz = 1 ∧ n = fs.length ∧ (n + es.length) * 8 ≤ lim then some (.row (d, 0) sz 0 (n + es.length), [(id, none), ((d, 0), some (.row sz (fs ++ es)))]) else none
  | _ => none
@[simp] theorem appendA_row (d : Nat) (st : St) (id : Id) (n : Nat) (es : List (List T)) : appendA d st ⟨false, 1, 8, [.int .i64 0]⟩ (.row id 1 0 n) es = appendR (st.ob id) d id n es := rfl
@[simp] theorem appendR_int (l xs : List Int) (d : Nat) (id : Id) (n : Nat) (h : n = l.length) (h2 : n + xs.length ≤ 1000000000) : appendR (some (.row 1 (intRow l))) d id n (intRow xs) = some (.row (d, 0) 1 0 (n + xs.length), [(id, none), ((d, 0), some (.row 1 (intRow (l ++ xs))))]) := by
  have h3 : (l.length + xs.length) * 8 ≤ lim := by unfold lim; omega
  subst h
  simp [appendR, h3]
@[simp] theorem appendR_one (l : List Int) (x : Int) (d : Nat) (id : Id) (n : Nat) (h : n = l.length) (h2 : n ≤ 999999999) : appendR (some (.row 1 (intRow l))) d id n (intRow [x]) = some (.row (d, 0) 1 0 (n + 1), [(id, none), ((d, 0), some (.row 1 (intRow (l ++ [x]))))]) :=
  appendR_int l [x] d id n h (by simp; omega)
@[simp] theorem appendA_nil (d : Nat) (st : St) (x : Int) : appendA d st ⟨false, 1, 8, [.int .i64 0]⟩ (.t (.v (.slice none 0 0))) (intRow [x]) = some (.row (d, 0) 1 0 1, [((d, 0), some (.row 1 (intRow [x])))]) := rfl
@[simp] theorem one_row (x : Int) : [[T.v (.int .i64 x)]] = intRow [x] := rfl
@[simp] theorem elemsA_row (st : St) (size : Nat) (id : Id) (sz i n : Nat) : elemsA st size (.row id sz i n) = if sz = size then match st.ob id with
    | some (.row _ es) | some (.frz _ es) => some (window es i n)
    | _ => none
    else none := rfl
@[simp] theorem take_intRow1 (x : Int) : (intRow [x]).take 1 = intRow [x] := rfl
@[simp] theorem get0 (v : AV) (vs : List AV) : (v :: vs)[0]? = some v := rfl
@[simp] theorem get1 (u v : AV) (vs : List AV) : (u :: v :: vs)[1]? = some v := rfl
@[simp] theorem get2 (u v x : AV) (vs : List AV) : (u :: v :: x :: vs)[2]? = some x := rfl
@[simp high] theorem extract0 (v : AV) (vs : List AV) : extractA (.tup (v :: vs)) 0 = some (v, []) := rfl
@[simp high] theorem extract1 (u v : AV) (vs : List AV) : extractA (.tup (u :: v :: vs)) 1 = some (v, []) := rfl
@[simp high] theorem extract2 (u v x : AV) (vs : List AV) : extractA (.tup (u :: v :: x :: vs)) 2 = some (x, []) := rfl
attribute [simp] litA TI.fine callFrz outEff valsOf mutsOf flatV
@[simp] theorem muted_false (d : Nat) (x : Option (AV × Eff)) : muted false d x = x := by simp [muted]
@[simp] theorem muteB_false (lo : List Nat) (d : Option Nat) : muteB false lo d = false := by simp [muteB]
end Cal
