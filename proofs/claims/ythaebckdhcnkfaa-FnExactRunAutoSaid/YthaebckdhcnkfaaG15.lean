/- A part of the proof: a calculus of our own over the model's code, and contracts of the program's functions. -/
import Derived.Test.YthaebckdhcnkfaaG12
import Derived.Test.YthaebckdhcnkfaaG14
/- The arguments' shapes: automata. -/
namespace Cal
open Go Go.Proofs
theorem fits_bools {x : T} (h : Sh.fits (.sl [.bool]) x) : ∃ l : List Bool, x = bools l ∧ l.length ≤ maxLen := by
  unfold Sh.fits at h
  obtain ⟨es, rfl, h1, h2⟩ := h
  have key : ∀ es : List (List T), (∀ e ∈ es, Sh.fitss [.bool] e) → ∃ l : List Bool, es = l.map (fun x => [T.v (.bool x)]) := by
    intro es
    induction es with
    | nil => exact fun _ => ⟨[], rfl⟩
    | cons e es ih =>
      intro h
      obtain ⟨l, h1⟩ := ih fun e' he' => h e' (by simp [he'])
      have he := h e (by simp)
      unfold Sh.fitss at he
      obtain ⟨y, ys, rfl, g1, g2⟩ := he
      unfold Sh.fitss at g2
      subst g2
      unfold Sh.fits at g1
      obtain ⟨b, rfl⟩ := g1
      exact ⟨b :: l, by rw [h1]; rfl⟩
  obtain ⟨l, rfl⟩ := key es h2
  exact ⟨l, rfl, by simpa using h1⟩
theorem fits_auto {xs : List T} (h : Sh.fitss [.sl [.int .i64], .sl [.int .i64], .sl [.int .i64], .sl [.int .i64], .sl [.bool]] xs) : ∃ a : Au, xs = encAu a ∧ smallA a := by
  simp only [Sh.fitss] at h
  obtain ⟨x1, _, rfl, f1, x2, _, rfl, f2, x3, _, rfl, f3, x4, _, rfl, f4, x5, _, rfl, f5, rfl⟩ := h
  obtain ⟨l1, rfl, m1, _⟩ := fits_ints f1
  obtain ⟨l2, rfl, m2, _⟩ := fits_ints f2
  obtain ⟨l3, rfl, m3, _⟩ := fits_ints f3
  obtain ⟨l4, rfl, m4, _⟩ := fits_ints f4
  obtain ⟨l5, rfl, m5⟩ := fits_bools f5
  refine ⟨⟨l1, l2, l3, l4, l5⟩, rfl, ?_⟩
  simp only [smallA]
  unfold maxLen at *
  omega
end Cal
