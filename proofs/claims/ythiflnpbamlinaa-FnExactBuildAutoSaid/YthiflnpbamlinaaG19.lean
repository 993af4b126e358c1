/- A part of the proof: a calculus of our own over the model's code, and contracts of the program's functions. -/
import Derived.Test.YthiflnpbamlinaaG16
import Derived.Test.YthiflnpbamlinaaG18
/- The arguments' shapes: rules. -/
namespace Cal
open Go Go.Proofs
theorem fits_intU {x : T} (h : Sh.fits (.int .i64) x) : ∃ n : Int, x = .v (.int .i64 n) ∧ (Lit.int .i64 n).wf = true := by
  unfold Sh.fits at h
  exact h
theorem fits_rule (e : List T) (h : Sh.fitss [.int .i64, .bool, .sl [.int .i64]] e) : ∃ r : Ru, e = encRu r ∧ r.seq.length ≤ 9223372036854775807 := by
  simp only [Sh.fitss] at h
  obtain ⟨x1, _, rfl, f1, x2, _, rfl, f2, x3, _, rfl, f3, rfl⟩ := h
  obtain ⟨a, rfl, m1⟩ := fits_intU f1
  unfold Sh.fits at f2
  obtain ⟨b, rfl⟩ := f2
  obtain ⟨l3, rfl, m3, w3⟩ := fits_ints f3
  unfold maxLen at *
  exact ⟨⟨a, b, l3⟩, rfl, by show l3.length ≤ _; omega⟩
theorem fits_rules {x : T} (h : Sh.fits (.sl [.int .i64, .bool, .sl [.int .i64]]) x) : ∃ rs : List Ru, x = recs encRu rs ∧ LU rs := by
  unfold Sh.fits at h
  obtain ⟨es, rfl, h1, h2⟩ := h
  have key : ∀ es : List (List T), (∀ e ∈ es, Sh.fitss [.int .i64, .bool, .sl [.int .i64]] e) → ∃ l : List Ru, es = l.map encRu ∧ ∀ y ∈ l, y.seq.length ≤ 9223372036854775807 := by
    intro es
    induction es with
    | nil => exact fun _ => ⟨[], rfl, by simp⟩
    | cons e es ih =>
      intro h
      obtain ⟨l, h1, h2⟩ := ih fun e' he' => h e' (by simp [he'])
      obtain ⟨y, rfl, hy⟩ := fits_rule e (h e (by simp))
      exact ⟨y :: l, by rw [h1]; rfl, List.forall_mem_cons.2 ⟨hy, h2⟩⟩
  obtain ⟨l, rfl, h3⟩ := key es h2
  have hl : l.length ≤ maxLen := by simpa using h1
  unfold maxLen at hl
  exact ⟨l, rfl, ⟨by omega, fun i hi => h3 _ (mem_nth.2 ⟨i, hi, rfl⟩)⟩⟩
end Cal
