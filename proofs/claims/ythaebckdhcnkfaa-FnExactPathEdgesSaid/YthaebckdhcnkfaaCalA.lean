/- A calculus of our own over the model's code, first part: pure values, how they lie in memory, and that this is kept. No program is named here. -/
import Derived.WalkKit
import Derived.ProofKit
import Derived.Below
namespace Cal
open Go Go.RowKit

/-- A pure cell: a value without addresses, or a slice that is only read, as the list of its elements' cells. -/
inductive T where
  | v (x : Value)
  | sl (es : List (List T))
  deriving Inhabited

/-- No address in it, and the value of one cell. -/
def plain : Value → Bool
  | .bool _ | .int _ _ | .string _ | .nilFunc | .nilIface => true
  | .pointer none => true
  | .map none => true
  | .slice none n c => n == 0 && c == 0
  | _ => false

mutual
/-- How a pure cell lies in memory; what it leads to lies in blocks that S has. -/
def Trep (w : World) (S : Nat → Prop) : T → Value → Prop
  | .v x, u => u = x ∧ plain x = true
  | .sl es, u => ∃ A n c, u = .slice A n c ∧ es.length = n ∧ n ≤ c ∧ c ≤ maxLen ∧ (0 < n → ∃ b off sz, A = some ⟨b, off, none⟩ ∧ S b ∧ Ereps w S b off sz es)
/-- The elements, sz cells each, from a place in a block on. -/
def Ereps (w : World) (S : Nat → Prop) (b : Nat) : Nat → Nat → List (List T) → Prop
  | _, _, [] => True
  | off, sz, e :: es => e.length = sz ∧ Creps w S b off e ∧ Ereps w S b (off + sz) sz es
/-- The cells, one behind the other. -/
def Creps (w : World) (S : Nat → Prop) (b : Nat) : Nat → List T → Prop
  | _, [] => True
  | off, x :: xs => (∃ u, w.cell? ⟨b, off, none⟩ = some u ∧ Trep w S x u) ∧ Creps w S b (off + 1) xs
end

/-- w' holds what w held in the blocks that S has. -/
def Same (S : Nat → Prop) (w w' : World) : Prop := ∀ b, S b → w'.heap[b]? = w.heap[b]?

theorem Same.refl (S : Nat → Prop) (w : World) : Same S w w := fun _ _ => rfl
theorem Same.trans {S : Nat → Prop} {a b c : World} (h : Same S a b) (k : Same S b c) : Same S a c := fun i hi => (k i hi).trans (h i hi)
theorem Same.mono {S S' : Nat → Prop} {w w' : World} (h : Same S' w w') (hs : ∀ b, S b → S' b) : Same S w w' := fun b hb => h b (hs b hb)

theorem cell_same {w w' : World} {b : Nat} (h : w'.heap[b]? = w.heap[b]?) (off : Nat) : w'.cell? ⟨b, off, none⟩ = w.cell? ⟨b, off, none⟩ := by
  unfold World.cell?
  simp only [h]

mutual
theorem Trep.keep {w w' : World} {S S' : Nat → Prop} (hw : Same S w w') (hs : ∀ b, S b → S' b) : ∀ (x : T) (u : Value), Trep w S x u → Trep w' S' x u
  | .v x, u, h => by unfold Trep at h ⊢; exact h
  | .sl es, u, h => by
    unfold Trep at h ⊢
    obtain ⟨A, n, c, h1, h2, h3, hc, h4⟩ := h
    exact ⟨A, n, c, h1, h2, h3, hc, fun hn => by
      obtain ⟨b, off, sz, e1, e2, e3⟩ := h4 hn
      exact ⟨b, off, sz, e1, hs b e2, Ereps.keep hw hs (hw b e2) off sz es e3⟩⟩
theorem Ereps.keep {w w' : World} {S S' : Nat → Prop} (hw : Same S w w') (hs : ∀ b, S b → S' b) {b : Nat} (hb : w'.heap[b]? = w.heap[b]?) : ∀ (off sz : Nat) (es : List (List T)), Ereps w S b off sz es → Ereps w' S' b off sz es
  | _, _, [], _ => by unfold Ereps; trivial
  | off, sz, e :: es, h => by
    unfold Ereps at h ⊢
    exact ⟨h.1, Creps.keep hw hs hb off e h.2.1, Ereps.keep hw hs hb (off + sz) sz es h.2.2⟩
theorem Creps.keep {w w' : World} {S S' : Nat → Prop} (hw : Same S w w') (hs : ∀ b, S b → S' b) {b : Nat} (hb : w'.heap[b]? = w.heap[b]?) : ∀ (off : Nat) (xs : List T), Creps w S b off xs → Creps w' S' b off xs
  | _, [], _ => by unfold Creps; trivial
  | off, x :: xs, h => by
    unfold Creps at h ⊢
    obtain ⟨⟨u, h1, h2⟩, h3⟩ := h
    exact ⟨⟨u, by rw [cell_same hb]; exact h1, Trep.keep hw hs x u h2⟩, Creps.keep hw hs hb (off + 1) xs h3⟩
end

theorem Creps.get {w : World} {S : Nat → Prop} {b : Nat} : ∀ {off : Nat} {xs : List T} (_ : Creps w S b off xs) {j : Nat} {x : T}, xs[j]? = some x → ∃ u, w.cell? ⟨b, off + j, none⟩ = some u ∧ Trep w S x u
  | off, [], _, j, x, hx => by simp at hx
  | off, y :: ys, h, j, x, hx => by
    unfold Creps at h
    cases j with
    | zero => simp at hx; subst hx; exact h.1
    | succ j =>
      have := Creps.get h.2 (j := j) (x := x) (by simpa using hx)
      rw [show off + (j + 1) = off + 1 + j by omega]
      exact this

theorem Creps.drop {w : World} {S : Nat → Prop} {b : Nat} : ∀ {off : Nat} {xs : List T} (_ : Creps w S b off xs) (j : Nat), Creps w S b (off + j) (xs.drop j)
  | off, xs, h, 0 => by simpa using h
  | off, [], _, j + 1 => by simp [Creps]
  | off, x :: xs, h, j + 1 => by
    unfold Creps at h
    have := Creps.drop h.2 j
    rw [show off + (j + 1) = off + 1 + j by omega]
    simpa using this

theorem Creps.take {w : World} {S : Nat → Prop} {b : Nat} : ∀ {off : Nat} {xs : List T} (_ : Creps w S b off xs) (j : Nat), Creps w S b off (xs.take j)
  | off, xs, h, 0 => by simp [Creps]
  | off, [], _, j + 1 => by simp [Creps]
  | off, x :: xs, h, j + 1 => by
    unfold Creps at h
    rw [List.take_succ_cons]; unfold Creps
    exact ⟨h.1, Creps.take h.2 j⟩

theorem Ereps.get {w : World} {S : Nat → Prop} {b : Nat} : ∀ {off sz : Nat} {es : List (List T)} (_ : Ereps w S b off sz es) {i : Nat} {e : List T}, es[i]? = some e → e.length = sz ∧ Creps w S b (off + i * sz) e
  | off, sz, [], _, i, e, he => by simp at he
  | off, sz, f :: es, h, i, e, he => by
    unfold Ereps at h
    cases i with
    | zero => simp at he; subst he; exact ⟨h.1, by simpa using h.2.1⟩
    | succ i =>
      have := Ereps.get h.2.2 (i := i) (e := e) (by simpa using he)
      refine ⟨this.1, ?_⟩
      rw [show off + (i + 1) * sz = off + sz + i * sz by rw [Nat.succ_mul]; omega]
      exact this.2

theorem Ereps.drop {w : World} {S : Nat → Prop} {b : Nat} : ∀ {off sz : Nat} {es : List (List T)} (_ : Ereps w S b off sz es) (i : Nat), Ereps w S b (off + i * sz) sz (es.drop i)
  | off, sz, es, h, 0 => by simpa using h
  | off, sz, [], _, i + 1 => by simp [Ereps]
  | off, sz, e :: es, h, i + 1 => by
    unfold Ereps at h
    have := Ereps.drop h.2.2 i
    rw [show off + (i + 1) * sz = off + sz + i * sz by rw [Nat.succ_mul]; omega]
    simpa using this

theorem Ereps.take {w : World} {S : Nat → Prop} {b : Nat} : ∀ {off sz : Nat} {es : List (List T)} (_ : Ereps w S b off sz es) (i : Nat), Ereps w S b off sz (es.take i)
  | off, sz, es, h, 0 => by simp [Ereps]
  | off, sz, [], _, i + 1 => by simp [Ereps]
  | off, sz, e :: es, h, i + 1 => by
    unfold Ereps at h
    rw [List.take_succ_cons]; unfold Ereps
    exact ⟨h.1, h.2.1, Ereps.take h.2.2 i⟩

theorem Ereps.append {w : World} {S : Nat → Prop} {b : Nat} : ∀ {off sz : Nat} {es fs : List (List T)}, Ereps w S b off sz es → Ereps w S b (off + es.length * sz) sz fs → Ereps w S b off sz (es ++ fs)
  | off, sz, [], fs, _, h => by simpa using h
  | off, sz, e :: es, fs, h, k => by
    unfold Ereps at h
    rw [List.cons_append]; unfold Ereps
    refine ⟨h.1, h.2.1, Ereps.append h.2.2 ?_⟩
    rw [show off + sz + es.length * sz = off + (e :: es).length * sz by simp [Nat.succ_mul]; omega]
    exact k

/-- An abstract value. -/
inductive AV where
  | t (x : T)
  | row (id : Nat × Nat) (sz i n : Nat)
  | ptr (id : Nat × Nat) (i j : Nat)
  | roptr (cs : List T)
  | agg (cs : List AV)
  | tup (vs : List AV)
  | bad
  deriving Inhabited

/-- What the call owns: a variable (its cells), a row (elements of sz cells), a row that is no longer written. -/
inductive Ob where
  | var (cs : List AV)
  | row (sz : Nat) (es : List (List T))
  | frz (sz : Nat) (es : List (List T))
  deriving Inhabited

abbrev Id := Nat × Nat

structure St where
  tm : Nat → AV
  ob : Id → Option Ob

end Cal
