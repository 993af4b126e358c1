/- A part of the proof: a calculus of our own over the model's code, and contracts of the program's functions. -/
import Derived.Test.YthiflnpbamlinaaG12
import Derived.Test.YthiflnpbamlinaaG16
/- The arguments' shapes: graphs. -/
namespace Cal
open Go Go.Proofs
theorem fits_graph {xs : List T} (h : Sh.fitss [.sl [.int .i64], .sl [.int .i64], .sl [.int .i64], .sl [.int .i64], .sl [.int .i64], .sl [.int .i64], .sl [.int .i64]] xs) : ∃ g : Gr, xs = encG g ∧ smallG g := by
  simp only [Sh.fitss] at h
  obtain ⟨x1, _, rfl, f1, x2, _, rfl, f2, x3, _, rfl, f3, x4, _, rfl, f4, x5, _, rfl, f5, x6, _, rfl, f6, x7, _, rfl, f7, rfl⟩ := h
  obtain ⟨l1, rfl, m1, _⟩ := fits_ints f1
  obtain ⟨l2, rfl, m2, _⟩ := fits_ints f2
  obtain ⟨l3, rfl, m3, _⟩ := fits_ints f3
  obtain ⟨l4, rfl, m4, _⟩ := fits_ints f4
  obtain ⟨l5, rfl, m5, _⟩ := fits_ints f5
  obtain ⟨l6, rfl, m6, _⟩ := fits_ints f6
  obtain ⟨l7, rfl, m7, _⟩ := fits_ints f7
  refine ⟨⟨l1, l2, l3, l4, l5, l6, l7⟩, rfl, ?_⟩
  simp only [smallG]
  unfold maxLen at *
  omega
theorem fits_int {x : T} (h : Sh.fits (.int .i64) x) : ∃ n : Int, x = .v (.int .i64 n) ∧ (Lit.int .i64 n).wf = true := by
  unfold Sh.fits at h
  exact h
end Cal
