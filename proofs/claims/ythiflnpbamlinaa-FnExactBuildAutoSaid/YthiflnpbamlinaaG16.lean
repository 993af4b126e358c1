/- A part of the proof: a calculus of our own over the model's code, and contracts of the program's functions. -/
import Derived.ChangeArms
import Derived.SizedLaws
import Derived.OpenShut
import Derived.Carry
import Derived.Test.YthiflnpbamlinaaG11
/- A calculus of our own, thirty-second part: a law's arguments, any data, ags pure cells. No program is named here. -/
set_option linter.unusedSimpArgs false
set_option linter.unusedVariables false
namespace Cal
open Go Go.RowKit

/-- A cell's shape. -/
inductive Sh where
  | int (k : IntKind)
  | bool
  | str
  | sl (es : List Sh)

def shapesF (P : Program) (sh : TypeId → Option (List Sh)) (total : Nat) : List Field → Nat → Option (List Sh)
  | [], off => if off = total then some [] else none
  | f :: fs, off => if f.offset = off then match sh f.type, shapesF P sh total fs (off + P.cellsOf f.type) with
      | some s, some r => if s.length = P.cellsOf f.type then some (s ++ r) else none
      | _, _ => none
    else none

def shapes (P : Program) : Nat → TypeId → Option (List Sh)
  | 0, _ => none
  | n + 1, t => match P.underlying t with
    | some .bool => some [.bool]
    | some (.int k) => some [.int k]
    | some .string => some [.str]
    | some (.slice e) => match shapes P n e with
      | some s => if 0 < s.length ∧ s.length = P.cellsOf e then some [.sl s] else none
      | none => none
    | some (.struct fs) => shapesF P (shapes P n) (P.cellsOf t) fs.toList 0
    | _ => none

mutual
def Sh.fits : Sh → T → Prop
  | .int k, x => ∃ n, x = .v (.int k n) ∧ (Lit.int k n).wf = true
  | .bool, x => ∃ b, x = .v (.bool b)
  | .str, x => ∃ s : ByteArray, x = .v (.string s) ∧ s.size ≤ maxLen
  | .sl ss, x => ∃ l : List (List T), x = .sl l ∧ l.length ≤ maxLen ∧ ∀ e ∈ l, Sh.fitss ss e
def Sh.fitss : List Sh → List T → Prop
  | [], xs => xs = []
  | s :: ss, xs => ∃ x xs', xs = x :: xs' ∧ s.fits x ∧ Sh.fitss ss xs'
end

theorem fitss_append : ∀ {s r : List Sh} {xs ys : List T}, Sh.fitss s xs → Sh.fitss r ys → Sh.fitss (s ++ r) (xs ++ ys)
  | [], r, xs, ys, h, k => by
    unfold Sh.fitss at h
    subst h
    exact k
  | a :: s, r, xs, ys, h, k => by
    unfold Sh.fitss at h
    obtain ⟨x, xs', rfl, h1, h2⟩ := h
    simp only [List.cons_append]
    unfold Sh.fitss
    exact ⟨x, xs' ++ ys, rfl, h1, fitss_append h2 k⟩
theorem fitss_len : ∀ {s : List Sh} {xs : List T}, Sh.fitss s xs → xs.length = s.length
  | [], xs, h => by
    unfold Sh.fitss at h
    subst h; rfl
  | a :: s, xs, h => by
    unfold Sh.fitss at h
    obtain ⟨x, xs', rfl, h1, h2⟩ := h
    simp [fitss_len h2]
theorem treps_append {w : World} {S : Nat → Prop} : ∀ {xs ys : List T} {us vs : List Value}, Treps w S xs us → Treps w S ys vs → Treps w S (xs ++ ys) (us ++ vs)
  | [], ys, us, vs, h, k => by
    cases us with
    | nil => exact k
    | cons u us => unfold Treps at h; exact h.elim
  | x :: xs, ys, us, vs, h, k => by
    cases us with
    | nil => unfold Treps at h; exact h.elim
    | cons u us =>
      unfold Treps at h
      simp only [List.cons_append]
      unfold Treps
      exact ⟨h.1, treps_append h.2 k⟩

variable {H : Type} {enc : TypeId × Value → H} {P : Program} {w : World} {spare : Nat → Bool} {held : Bool}

theorem choose_list {α : Type} (p : Nat → α → Prop) : ∀ n, (∀ i < n, ∃ x, p i x) → ∃ l : List α, l.length = n ∧ ∀ i x, l[i]? = some x → p i x
  | 0, _ => ⟨[], rfl, fun i x h => by simp at h⟩
  | n + 1, h => by
    obtain ⟨l, h1, h2⟩ := choose_list p n fun i hi => h i (by omega)
    obtain ⟨x, hx⟩ := h n (by omega)
    refine ⟨l ++ [x], by simp [h1], fun i y hy => ?_⟩
    by_cases hi : i < l.length
    · rw [List.getElem?_append_left hi] at hy
      exact h2 i y hy
    · rw [List.getElem?_append_right (by omega)] at hy
      cases hk : i - l.length with
      | zero =>
        rw [hk] at hy
        simp at hy
        subst hy
        have : i = n := by omega
        subst this
        exact hx
      | succ k => rw [hk] at hy; simp at hy

/-- Any data, read ags the statement reads it, is pure cells. -/
theorem opens {S : Nat → Prop} (hS : ∀ b, b < w.heap.size → S b) : ∀ (fuel : Nat) (t : TypeId) (cs : List Value) (x : DataW H × List MemPlace), DataW.trod enc P w 0 spare held fuel t cs = some x → ∀ (n : Nat) (shs : List Sh), shapes P n t = some shs → ∃ xs, Sh.fitss shs xs ∧ Treps w S xs cs := by
  intro fuel
  induction fuel with
  | zero => intro t cs x h; simp [DataW.trod] at h
  | succ fuel ih =>
    intro t cs x h n shs hs
    cases n with
    | zero => simp [shapes] at hs
    | succ n =>
      simp only [shapes] at hs
      cases hu : P.underlying t with
      | none => rw [hu] at hs; cases hs
      | some d =>
        rw [hu] at hs
        cases d with
        | bool =>
          cases hs
          obtain ⟨b, rfl, _⟩ := DataW.trod_bool hu h
          exact ⟨[.v (.bool b)], by simp [Sh.fitss, Sh.fits], by simp [Treps, Trep, plain]⟩
        | int k =>
          cases hs
          obtain ⟨m, rfl, _, hw⟩ := DataW.trod_int hu h
          exact ⟨[.v (.int k m)], by simp [Sh.fitss, Sh.fits, hw], by simp [Treps, Trep, plain]⟩
        | string =>
          cases hs
          obtain ⟨s, rfl, _, hw⟩ := DataW.trod_string hu h
          exact ⟨[.v (.string s)], by simp [Sh.fitss, Sh.fits, hw], by simp [Treps, Trep, plain]⟩
        | slice e =>
          dsimp only at hs
          split at hs
          · rename_i s hse
            split at hs
            · rename_i hlen
              cases hs
              rcases DataW.trod_slice hu h with ⟨rfl, _⟩ | ⟨a, len, cap, elems, rest, m, hm, rfl, _, hb, hl, hcm, hel, hall, _, _⟩
              · refine ⟨[.sl []], ?_, ?_⟩
                · unfold Sh.fitss
                  refine ⟨_, _, rfl, ?_, by unfold Sh.fitss; rfl⟩
                  unfold Sh.fits
                  exact ⟨[], rfl, by simp, by simp⟩
                · unfold Treps
                  refine ⟨?_, by unfold Treps; trivial⟩
                  unfold Trep
                  exact ⟨none, 0, 0, rfl, rfl, Nat.le_refl _, by unfold maxLen; omega, fun h => absurd h (by omega)⟩
              · cases hm
                have hget : ∀ i < len, ∃ xs : List T, Sh.fitss s xs ∧ ∃ us, w.cells? 0 (a.add (i * P.cellsOf e)) (P.cellsOf e) = some us ∧ Treps w S xs us := by
                  intro i hi
                  have h1 := hall i hi
                  rw [List.getElem?_eq_getElem (by omega)] at h1
                  cases hc : w.cells? 0 (a.add (i * P.cellsOf e)) (P.cellsOf e) with
                  | none => rw [hc] at h1; cases h1
                  | some us =>
                    rw [hc] at h1
                    obtain ⟨xs, g1, g2⟩ := ih _ _ _ h1 n s hse
                    exact ⟨xs, g1, us, rfl, g2⟩
                obtain ⟨l, hll, hlp⟩ := choose_list _ len hget
                refine ⟨[.sl l], ?_, ?_⟩
                · unfold Sh.fitss
                  refine ⟨_, _, rfl, ?_, by unfold Sh.fitss; rfl⟩
                  unfold Sh.fits
                  refine ⟨l, rfl, by omega, fun el hel' => ?_⟩
                  obtain ⟨i, hi⟩ := List.getElem?_of_mem hel'
                  exact (hlp i el hi).1
                · unfold Treps
                  refine ⟨?_, by unfold Treps; trivial⟩
                  unfold Trep
                  refine ⟨some a, len, cap, rfl, hll, hl, hcm, fun hpos => ?_⟩
                  have cellAt : ∀ (i j : Nat) (us : List Value) (u : Value), w.cells? 0 (a.add (i * P.cellsOf e)) (P.cellsOf e) = some us → us[j]? = some u → w.cell? ((a.add (i * P.cellsOf e)).add j) = some u := by
                    intro i j us u hc hu'
                    obtain ⟨_, k1, k2⟩ := World.cells?_some hc
                    have hjl := (List.getElem?_eq_some_iff.1 hu').1
                    rw [k2 j (by omega), hu']
                  have first : ∃ u, w.cell? ((a.add (0 * P.cellsOf e)).add 0) = some u := by
                    obtain ⟨xs, g1, us, g2, g3⟩ := hget 0 hpos
                    have h1 := (Treps_iff.1 g3).1
                    have h2 := fitss_len g1
                    obtain ⟨u, hu'⟩ : ∃ u, us[0]? = some u := ⟨_, List.getElem?_eq_getElem (by omega)⟩
                    exact ⟨u, cellAt 0 0 us u g2 hu'⟩
                  have hspot : a.spot = none ∧ a.block < w.heap.size := by
                    obtain ⟨u, hu'⟩ := first
                    have e0 : (a.add (0 * P.cellsOf e)).add 0 = a := by simp [Addr.add]
                    rw [e0] at hu'
                    unfold World.cell? at hu'
                    split at hu'
                    · rename_i c ty fr hblk
                      split at hu'
                      · cases hu'
                      · rename_i hs'
                        refine ⟨by cases hsp' : a.spot with | none => rfl | some _ => rw [hsp'] at hs'; exact absurd rfl hs', (Array.getElem?_eq_some_iff.1 hblk).1⟩
                    · cases hu'
                  obtain ⟨b, off, sp⟩ := a
                  obtain ⟨h1, h2⟩ := hspot
                  simp only at h1 h2
                  subst h1
                  refine ⟨b, off, P.cellsOf e, rfl, hS b h2, ?_⟩
                  rw [Ereps_iff]
                  intro i el hi
                  obtain ⟨g1, us, g2, g3⟩ := hlp i el hi
                  obtain ⟨g4, g5⟩ := Treps_iff.1 g3
                  have h3 := fitss_len g1
                  refine ⟨by omega, ?_⟩
                  rw [Creps_iff]
                  intro j y hy
                  have hjl := (List.getElem?_eq_some_iff.1 hy).1
                  obtain ⟨u, hu'⟩ : ∃ u, us[j]? = some u := ⟨_, List.getElem?_eq_getElem (by omega)⟩
                  refine ⟨u, ?_, g5 j y u hy hu'⟩
                  have := cellAt i j us u g2 hu'
                  rw [add_none, add_none] at this
                  exact this
            · cases hs
          · cases hs
        | struct fs =>
          dsimp only at hs
          obtain ⟨xs, m, hm, _, hlen, hxl, hf⟩ := DataW.trod_struct hu h
          cases hm
          have key : ∀ (l : List Field) (k off : Nat) (r : List Sh), (∀ i f, l[i]? = some f → fs[k + i]? = some f) → shapesF P (shapes P n) (P.cellsOf t) l off = some r → ∃ ys, Sh.fitss r ys ∧ Treps w S ys (cs.drop off) := by
            intro l
            induction l with
            | nil =>
              intro k off r _ hr
              unfold shapesF at hr
              split at hr
              · rename_i ho
                cases hr
                refine ⟨[], by unfold Sh.fitss; rfl, ?_⟩
                rw [List.drop_eq_nil_of_le (by omega)]
                unfold Treps; trivial
              · cases hr
            | cons f l ihl =>
              intro k off r hl hr
              unfold shapesF at hr
              split at hr
              · rename_i ho
                split at hr
                · rename_i s r' hs1 hr1
                  split at hr
                  · rename_i hsl
                    cases hr
                    obtain ⟨ys, y1, y2⟩ := ihl (k + 1) _ _ (fun i f' hi => by
                      have := hl (i + 1) f' (by simpa using hi)
                      rw [show k + 1 + i = k + (i + 1) by omega]; exact this) hr1
                    have hfk := hl 0 f rfl
                    have hxk := hf k f hfk
                    have hkl : k < fs.size := (Array.getElem?_eq_some_iff.1 hfk).1
                    rw [List.getElem?_eq_getElem (by omega)] at hxk
                    obtain ⟨zs, z1, z2⟩ := ih _ _ _ hxk n s hs1
                    refine ⟨zs ++ ys, fitss_append z1 y1, ?_⟩
                    have := treps_append z2 y2
                    rw [ho] at this
                    rw [show cs.drop off = (cs.drop off).take (P.cellsOf f.type) ++ cs.drop (off + P.cellsOf f.type) by
                      rw [← List.drop_drop, List.take_append_drop]]
                    exact this
                  · cases hr
                · cases hr
              · cases hr
          obtain ⟨ys, y1, y2⟩ := key fs.toList 0 0 shs (fun i f hi => by simpa using hi) hs
          exact ⟨ys, y1, by simpa using y2⟩
        | _ => cases hs

/-- Lists of int64. -/
theorem fits_ints {x : T} (h : Sh.fits (.sl [.int .i64]) x) : ∃ l : List Int, x = ints l ∧ l.length ≤ maxLen ∧ ∀ n ∈ l, (Lit.int .i64 n).wf = true := by
  unfold Sh.fits at h
  obtain ⟨es, rfl, h1, h2⟩ := h
  have key : ∀ es : List (List T), (∀ e ∈ es, Sh.fitss [.int .i64] e) → ∃ l : List Int, es = l.map (fun x => [T.v (.int .i64 x)]) ∧ ∀ n ∈ l, (Lit.int .i64 n).wf = true := by
    intro es
    induction es with
    | nil => exact fun _ => ⟨[], rfl, by simp⟩
    | cons e es ih =>
      intro h
      obtain ⟨l, h1, h2⟩ := ih fun e' he' => h e' (by simp [he'])
      have he := h e (by simp)
      unfold Sh.fitss at he
      obtain ⟨y, ys, rfl, g1, g2⟩ := he
      unfold Sh.fitss at g2
      subst g2
      unfold Sh.fits at g1
      obtain ⟨n, rfl, g3⟩ := g1
      exact ⟨n :: l, by rw [h1]; rfl, List.forall_mem_cons.2 ⟨g3, h2⟩⟩
  obtain ⟨l, rfl, h3⟩ := key es h2
  exact ⟨l, rfl, by simpa using h1, h3⟩

theorem arg_val {W : World} {n : Nat} {t : TypeId} {v : Value} {d : DataW H} {ps : List MemPlace} {sh : Sh} (hs : shapes P n t = some [sh]) (hv : v.cells = #[v])
    (hd : DataW.Trod enc P W 0 (fun _ => true) true t v d ps) : ∃ x, Sh.fits sh x ∧ ArgRep W (fun b => b < W.heap.size) (.val x) v [] := by
  obtain ⟨fuel, hf⟩ := hd
  rw [hv] at hf
  obtain ⟨xs, h1, h2⟩ := opens (S := fun b => b < W.heap.size) (fun b hb => hb) fuel t _ _ hf n [sh] hs
  unfold Sh.fitss at h1
  obtain ⟨x, xs', rfl, h3, h4⟩ := h1
  unfold Sh.fitss at h4
  subst h4
  unfold Treps at h2
  exact ⟨x, h3, rfl, h2.1⟩

theorem argsRep_len {S : Nat → Prop} : ∀ {ags : List Arg} {us : List Value} {ab : List (Nat × Nat)}, ArgsRep w S ags us ab → us.length = ags.length
  | [], us, ab, h => by
    unfold ArgsRep at h
    rw [h.1]; rfl
  | b :: ags, us, ab, h => by
    unfold ArgsRep at h
    obtain ⟨u, us', b1, b2, rfl, _, _, h2⟩ := h
    simp [argsRep_len h2]

/-- A law that returns true: it leaves what was there. -/
theorem law_calls {f : FuncId} {ags : List Arg} {us : List Value} (h : CallsF P f ags (.t (.v (.bool true))) []) (ha : ArgsRep w (fun b => b < w.heap.size) ags us []) (hfx : Fixed [] w) : Calls P f us.toArray w fun e w' => e = .returned (.bool true) ∧ Below w.heap.size w w' := by
  refine Calls.mono (h.2.2 w _ us us [] (fun b hb => hb) (flatU_self ags us (argsRep_len ha)) ha List.nodup_nil (by simp) hfx) fun e w' he => ?_
  obtain ⟨u, S', bs, rfl, k1, _, _, k4, _⟩ := he
  unfold RVrep at k4
  obtain ⟨_, k4⟩ := k4
  unfold Trep at k4
  exact ⟨by rw [k4.1], k1.os, k1.tape, k1.output, k1.size, fun k hk => k1.block k hk (by simp)⟩

end Cal
