/- A calculus of our own, twenty-third part: a call's arguments. No program is named here. -/
import Derived.Test.YthaebckdhcnkfaaCalW
set_option linter.unusedSimpArgs false
set_option linter.unusedVariables false
namespace Cal
open Go Go.RowKit

variable {P : Program} {w0 w : World} {S0 S : Nat → Prop} {own : List Nat} {N : Nat} {m cap : Id → Nat} {st : St} {a : Act}

/-- The blocks of the arguments that are handed over to be written. -/
def abOf (m cap : Id → Nat) : List AV → List Arg → List (Nat × Nat)
  | .row id _ _ _ :: vs, .mrow .. :: as => (m id, cap id) :: abOf m cap vs as
  | .ptr id _ _ :: vs, .mvar _ :: as => (m id, 0) :: abOf m cap vs as
  | _ :: vs, _ :: as => abOf m cap vs as
  | _, _ => []

theorem creps_cells {b : Nat} {arr : Array Value} {ty : TypeId} {cs : List T} (hb : w.heap[b]? = some (.cells arr ty (0, 0))) (hs : arr.size = cs.length) {ob : Id → Option Ob} :
    Creps w S b 0 cs ↔ AVreps w S m cap ob (cs.map .t) arr.toList := by
  rw [Creps_iff, AVreps_iff]
  have hcell : ∀ j, w.cell? ⟨b, 0 + j, none⟩ = arr[j]? := fun j => by
    unfold World.cell?
    simp only [hb, Nat.zero_add]
    cases arr[j]? <;> rfl
  constructor
  · intro h
    refine ⟨by simp [hs], fun j v u hj hu => ?_⟩
    rw [List.getElem?_map] at hj
    cases hc : cs[j]? with
    | none => simp [hc] at hj
    | some x =>
      simp [hc] at hj
      subst hj
      obtain ⟨u', h1, h2⟩ := h j x hc
      rw [hcell j] at h1
      rw [Array.getElem?_toList, h1] at hu
      cases hu
      unfold AVrep
      exact h2
  · rintro ⟨h1, h2⟩ j x hj
    have hjl := (List.getElem?_eq_some_iff.1 hj).1
    obtain ⟨u, hu⟩ : ∃ u, arr[j]? = some u := ⟨_, Array.getElem?_eq_getElem (by omega)⟩
    refine ⟨u, by rw [hcell j]; exact hu, ?_⟩
    have := h2 j (.t x) u (by rw [List.getElem?_map, hj]; rfl) (by rw [Array.getElem?_toList]; exact hu)
    unfold AVrep at this
    exact this

theorem toTs_one {s : St} {v : AV} {x : T} (h : s.toT v = some x) : s.toTs [v] = some [x] := by simp [St.toTs, h]

theorem noRow_append {id : Id} : ∀ {xs ys : List AV}, noRow id (xs ++ ys) = true → noRow id xs = true ∧ noRow id ys = true
  | [], ys, h => ⟨rfl, h⟩
  | x :: xs, ys, h => by
    cases x <;> simp only [List.cons_append, noRow, Bool.and_eq_true] at h ⊢ <;> first | exact noRow_append h | exact ⟨⟨h.1, (noRow_append h.2).1⟩, (noRow_append h.2).2⟩

/-- The arguments lie as the contract asks. st1: what is read has been frozen. -/
theorem args_rep (h0 : RelAt w0 S0 own N m cap S st a w) {S1 : Nat → Prop} {st1 : St} (h1 : RelAt w0 S0 own N m cap S1 st1 a w) (hz : Froze st st1) :
    ∀ (vs : List AV) (us : List Value) (as : List Arg), AVreps w S1 m cap st1.ob vs us → st.args vs as → (∀ id sz i n, AV.row id sz i n ∈ valsOf vs as → S1 (m id)) → (∀ id ∈ mutsOf vs as, st1.ob id = st.ob id) →
      ArgsRep w S1 as us (abOf m cap vs as) ∧ (abOf m cap vs as).map (·.1) = (mutsOf vs as).map m ∧ ∀ id ∈ mutsOf vs as, st.ob id ≠ none
  | [], us, [], hu, _, _, _ => by unfold AVreps at hu; subst hu; simp [ArgsRep, abOf, mutsOf]
  | [], _, _ :: _, _, h, _, _ => h.elim
  | _ :: _, _, [], _, h, _, _ => h.elim
  | v :: vs, us0, b :: as, hu, h, hv, hm => by
    unfold AVreps at hu
    obtain ⟨u, us, rfl, hx, hus⟩ := hu
    unfold St.args at h
    obtain ⟨hb, hr⟩ := h
    cases b with
    | val y =>
      unfold St.arg at hb
      have hvs : valsOf (v :: vs) (Arg.val y :: as) = v :: valsOf vs as := by simp [valsOf]
      have hms : mutsOf (v :: vs) (Arg.val y :: as) = mutsOf vs as := by cases v <;> simp [mutsOf]
      have hab : abOf m cap (v :: vs) (Arg.val y :: as) = abOf m cap vs as := by cases v <;> simp [abOf]
      rw [hvs] at hv
      rw [hms] at hm
      rw [hms, hab]
      obtain ⟨g1, g2, g3⟩ := args_rep h0 h1 hz vs us as hus hr (fun id sz i n hmem => hv id sz i n (by simp [hmem])) hm
      refine ⟨?_, g2, g3⟩
      unfold ArgsRep
      refine ⟨u, us, [], _, rfl, rfl, ?_, g1⟩
      unfold ArgRep
      refine ⟨rfl, ?_⟩
      have ht : Treps w S1 [y] [u] := toTs_rep h1 hz (toTs_one hb) (by unfold AVreps; exact ⟨_, _, rfl, hx, by unfold AVreps; rfl⟩) fun id sz i n hmem => hv id sz i n (by simp at hmem; simp [hmem])
      unfold Treps at ht
      exact ht.1
    | agg ys =>
      unfold St.arg at hb
      obtain ⟨cs, hb1, hb2⟩ := hb
      have hvs : valsOf (v :: vs) (Arg.agg ys :: as) = cs ++ valsOf vs as := by simp [valsOf, hb1]
      have hms : mutsOf (v :: vs) (Arg.agg ys :: as) = mutsOf vs as := by rw [hb1]; simp [mutsOf]
      have hab : abOf m cap (v :: vs) (Arg.agg ys :: as) = abOf m cap vs as := by rw [hb1]; simp [abOf]
      rw [hvs] at hv
      rw [hms] at hm
      rw [hms, hab]
      obtain ⟨g1, g2, g3⟩ := args_rep h0 h1 hz vs us as hus hr (fun id sz i n hmem => hv id sz i n (by simp [hmem])) hm
      refine ⟨?_, g2, g3⟩
      unfold ArgsRep
      refine ⟨u, us, [], _, rfl, rfl, ?_, g1⟩
      unfold ArgRep
      refine ⟨rfl, ?_⟩
      rw [hb1] at hx
      unfold AVrep at hx
      obtain ⟨us, hu1, hu2⟩ := hx
      exact ⟨us, hu1, toTs_rep h1 hz hb2 hu2 fun id sz i n hmem => hv id sz i n (by simp [hmem])⟩
    | mrow sz es =>
      unfold St.arg at hb
      obtain ⟨id, hb1, hb2⟩ := hb
      rw [hb1] at hx hv hm ⊢
      simp only [valsOf] at hv
      simp only [mutsOf, List.mem_cons, forall_eq_or_imp] at hm
      obtain ⟨g1, g2, g3⟩ := args_rep h0 h1 hz vs us as hus hr (fun id sz i n hmem => hv id sz i n hmem) hm.2
      have ho1 : st1.ob id = some (.row sz es) := by rw [hm.1, hb2]
      refine ⟨?_, by simp only [abOf, mutsOf, List.map_cons, g2], by simp only [mutsOf, List.mem_cons, forall_eq_or_imp]; exact ⟨by rw [hb2]; simp, g3⟩⟩
      unfold ArgsRep
      refine ⟨u, us, [(m id, cap id)], abOf m cap vs as, rfl, by simp [abOf], ?_, g1⟩
      unfold ArgRep
      obtain ⟨k1, k2⟩ := h1.obs id _ ho1
      unfold AVrep at hx
      obtain ⟨A, c, x1, x2, x3, x4, _, x5⟩ := hx
      obtain ⟨_, _, _, _, x9⟩ := x5 sz es (.inl ho1)
      obtain ⟨rfl, rfl⟩ := x9 rfl
      exact ⟨m id, cap id, rfl, x1, k1, k2⟩
    | mvar cs =>
      unfold St.arg at hb
      obtain ⟨id, hb1, hb2⟩ := hb
      rw [hb1] at hx hv hm ⊢
      simp only [valsOf] at hv
      simp only [mutsOf, List.mem_cons, forall_eq_or_imp] at hm
      obtain ⟨g1, g2, g3⟩ := args_rep h0 h1 hz vs us as hus hr (fun id sz i n hmem => hv id sz i n hmem) hm.2
      have ho1 : st1.ob id = some (.var (cs.map .t)) := by rw [hm.1, hb2]
      refine ⟨?_, by simp only [abOf, mutsOf, List.map_cons, g2], by simp only [mutsOf, List.mem_cons, forall_eq_or_imp]; exact ⟨by rw [hb2]; simp, g3⟩⟩
      unfold ArgsRep
      refine ⟨u, us, [(m id, 0)], abOf m cap vs as, rfl, by simp [abOf], ?_, g1⟩
      unfold ArgRep
      obtain ⟨⟨arr, ty, k1, k2⟩, k3⟩ := h1.obs id _ ho1
      unfold AVrep at hx
      obtain ⟨ad, x1, x2, _⟩ := hx
      have hsz : arr.size = cs.length := by rw [← Array.length_toList, k2.len, List.length_map]
      exact ⟨m id, rfl, by rw [x1, x2 _ ho1 rfl], ⟨⟨arr, ty, k1, hsz⟩, (creps_cells k1 hsz).2 k2⟩, k3⟩

end Cal
