/- A part of the proof: a calculus of our own over the model's code, and contracts of the program's functions. -/
import Derived.Test.YtgebbomkinmenaaDoorG14
import Derived.Test.YtgebbomkinmenaaDoorG15
import Derived.Test.YtgebbomkinmenaaDoorG18
/- The arguments' shapes: networks. -/
namespace Cal
open Go Go.Proofs
theorem i64_wf' {n : Int} (h : (Lit.int .i64 n).wf = true) : i64 n := by
  simp [Lit.wf, IntKind.min, IntKind.max, IntKind.signed, IntKind.bits] at h
  unfold i64
  omega
theorem fits_recs {α : Type} {ss : List Sh} {enc : α → List T} {P : α → Prop} (hE : ∀ e, Sh.fitss ss e → ∃ x, e = enc x ∧ P x) {x : T} (h : Sh.fits (.sl ss) x) : ∃ l : List α, x = recs enc l ∧ l.length ≤ maxLen ∧ ∀ y ∈ l, P y := by
  unfold Sh.fits at h
  obtain ⟨es, rfl, h1, h2⟩ := h
  have key : ∀ es : List (List T), (∀ e ∈ es, Sh.fitss ss e) → ∃ l : List α, es = l.map enc ∧ ∀ y ∈ l, P y := by
    intro es
    induction es with
    | nil => exact fun _ => ⟨[], rfl, by simp⟩
    | cons e es ih =>
      intro h
      obtain ⟨l, h1, h2⟩ := ih fun e' he' => h e' (by simp [he'])
      obtain ⟨y, rfl, hy⟩ := hE e (h e (by simp))
      exact ⟨y :: l, by rw [h1]; rfl, List.forall_mem_cons.2 ⟨hy, h2⟩⟩
  obtain ⟨l, rfl, h3⟩ := key es h2
  exact ⟨l, rfl, by simpa using h1, h3⟩
def PW (w : Way) : Prop := i64 w.id ∧ w.nodes.length ≤ 9223372036854775807 ∧ w.lens.length ≤ 9223372036854775807 ∧ ∀ j : Nat, j < w.nodes.length → i64 (rd w.nodes j)
def PR (r : Rln) : Prop := i64 r.fr ∧ i64 r.to ∧ i64 r.node ∧ r.via.length ≤ 9223372036854775807 ∧ ∀ j : Nat, j < r.via.length → i64 (rd r.via j)
def PC (t : Tc) : Prop := i64 t.fr ∧ i64 t.to
theorem i64s {l : List Int} (h : ∀ n ∈ l, (Lit.int .i64 n).wf = true) : ∀ j : Nat, j < l.length → i64 (rd l j) := fun j hj => i64_wf' (h _ (mem_rd.2 ⟨j, hj, rfl⟩))
theorem fits_way (e : List T) (h : Sh.fitss [.int .i64, .bool, .sl [.int .i64], .sl [.int .i64]] e) : ∃ w : Way, e = encW w ∧ PW w := by
  simp only [Sh.fitss] at h
  obtain ⟨x1, _, rfl, f1, x2, _, rfl, f2, x3, _, rfl, f3, x4, _, rfl, f4, rfl⟩ := h
  obtain ⟨a, rfl, m1⟩ := fits_int f1
  unfold Sh.fits at f2
  obtain ⟨b, rfl⟩ := f2
  obtain ⟨l3, rfl, m3, w3⟩ := fits_ints f3
  obtain ⟨l4, rfl, m4, _⟩ := fits_ints f4
  unfold maxLen at *
  exact ⟨⟨a, b, l3, l4⟩, rfl, i64_wf' m1, by show l3.length ≤ _; omega, by show l4.length ≤ _; omega, i64s w3⟩
theorem fits_rel (e : List T) (h : Sh.fitss [.int .i64, .bool, .int .i64, .int .i64, .bool, .int .i64, .sl [.int .i64]] e) : ∃ r : Rln, e = encR r ∧ PR r := by
  simp only [Sh.fitss] at h
  obtain ⟨x1, _, rfl, f1, x2, _, rfl, f2, x3, _, rfl, f3, x4, _, rfl, f4, x5, _, rfl, f5, x6, _, rfl, f6, x7, _, rfl, f7, rfl⟩ := h
  obtain ⟨a1, rfl, m1⟩ := fits_int f1
  unfold Sh.fits at f2
  obtain ⟨a2, rfl⟩ := f2
  obtain ⟨a3, rfl, m3⟩ := fits_int f3
  obtain ⟨a4, rfl, m4⟩ := fits_int f4
  unfold Sh.fits at f5
  obtain ⟨a5, rfl⟩ := f5
  obtain ⟨a6, rfl, m6⟩ := fits_int f6
  obtain ⟨l7, rfl, m7, w7⟩ := fits_ints f7
  unfold maxLen at *
  exact ⟨⟨a1, a2, a3, a4, a5, a6, l7⟩, rfl, i64_wf' m3, i64_wf' m4, i64_wf' m6, by show l7.length ≤ _; omega, i64s w7⟩
theorem fits_tc (e : List T) (h : Sh.fitss [.int .i64, .int .i64, .int .i64] e) : ∃ t : Tc, e = encC t ∧ PC t := by
  simp only [Sh.fitss] at h
  obtain ⟨x1, _, rfl, f1, x2, _, rfl, f2, x3, _, rfl, f3, rfl⟩ := h
  obtain ⟨a1, rfl, m1⟩ := fits_int f1
  obtain ⟨a2, rfl, m2⟩ := fits_int f2
  obtain ⟨a3, rfl, m3⟩ := fits_int f3
  exact ⟨⟨a1, a2, a3⟩, rfl, i64_wf' m1, i64_wf' m2⟩
theorem fits_net {xs : List T} (h : Sh.fitss [.sl [.int .i64], .sl [.int .i64, .bool, .sl [.int .i64], .sl [.int .i64]], .sl [.int .i64, .bool, .int .i64, .int .i64, .bool, .int .i64, .sl [.int .i64]], .sl [.int .i64, .int .i64, .int .i64], .int .i64] xs) : ∃ n : Net, xs = encN n ∧ (smallN n ∧ N64 n) := by
  simp only [Sh.fitss] at h
  obtain ⟨x1, _, rfl, f1, x2, _, rfl, f2, x3, _, rfl, f3, x4, _, rfl, f4, x5, _, rfl, f5, rfl⟩ := h
  obtain ⟨l1, rfl, m1, w1⟩ := fits_ints f1
  obtain ⟨l2, rfl, m2, w2⟩ := fits_recs fits_way f2
  obtain ⟨l3, rfl, m3, w3⟩ := fits_recs fits_rel f3
  obtain ⟨l4, rfl, m4, w4⟩ := fits_recs fits_tc f4
  obtain ⟨u, rfl, _⟩ := fits_int f5
  have k2 : ∀ i : Nat, i < l2.length → PW (nth l2 i) := fun i hi => w2 _ (mem_nth.2 ⟨i, hi, rfl⟩)
  have k3 : ∀ i : Nat, i < l3.length → PR (nth l3 i) := fun i hi => w3 _ (mem_nth.2 ⟨i, hi, rfl⟩)
  have k4 : ∀ i : Nat, i < l4.length → PC (nth l4 i) := fun i hi => w4 _ (mem_nth.2 ⟨i, hi, rfl⟩)
  unfold maxLen at *
  exact ⟨⟨l1, l2, l3, l4, u⟩, rfl, ⟨by show l1.length ≤ _; omega, by show l2.length ≤ _; omega, by show l3.length ≤ _; omega, by show l4.length ≤ _; omega, fun i hi => ⟨(k2 i hi).2.1, (k2 i hi).2.2.1⟩, fun i hi => (k3 i hi).2.2.2.1⟩,
    ⟨i64s w1, fun i hi => (k2 i hi).1, fun i hi => (k2 i hi).2.2.2, fun i hi => ⟨(k3 i hi).1, (k3 i hi).2.1, (k3 i hi).2.2.1⟩, fun i hi => (k3 i hi).2.2.2.2, fun i hi => k4 i hi⟩⟩
theorem sumL_le {α : Type} [Inhabited α] {f : α → Int} {l : List α} (h : ∀ x, 0 ≤ f x) {i : Nat} (hi : i < l.length) : f (nth l i) ≤ sumL f l l.length := by
  have h1 := sumL_mono (l := l) h (show i + 1 ≤ l.length by omega)
  have h2 := sumL_nn (l := l) h i
  have h3 : sumL f l (i + 1) = sumL f l i + f (nth l i) := rfl
  omega
theorem LN_of {n : Net} (h : sumN n ≤ 1048576) : LN n := by
  have nw : ∀ w : Way, 0 ≤ lenW w := fun w => by unfold lenW; omega
  have nr : ∀ w : Rln, 0 ≤ lenR w := fun w => by unfold lenR; omega
  have w0 := sumL_nn (l := n.ways) nw n.ways.length
  have r0 := sumL_nn (l := n.rels) nr n.rels.length
  unfold sumN sizeW sizeR at h
  refine ⟨by omega, by omega, by omega, by omega, fun i hi => ?_, fun i hi => ?_, fun i hi => ?_⟩
  · have := sumL_le (l := n.ways) nw hi
    unfold lenW at this w0 h
    omega
  · have := sumL_le (l := n.ways) nw hi
    unfold lenW at this w0 h
    omega
  · have := sumL_le (l := n.rels) nr hi
    unfold lenR at this r0 h
    omega
end Cal
