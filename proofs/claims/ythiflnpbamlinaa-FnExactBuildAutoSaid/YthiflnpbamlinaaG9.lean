/- A part of the proof: a calculus of our own over the model's code, and contracts of the program's functions. -/
import Derived.DeepKeys4
import Derived.Test.YthiflnpbamlinaaG8
/- A calculus of our own: which maps the calculus takes: keys that are whole numbers, pairs of them, a string and two of them. No program is named here. -/
set_option linter.unusedSimpArgs false
set_option linter.unusedVariables false
namespace Cal
open Go Go.RowKit Go.Maps
variable {P : Program}

theorem minf_of {t : TypeId} {mi : MI} (h0 : minf0 P t = some mi) (K : Keyed P mi.kt) (hk : ∀ k : MK, k.kind = mi.kd → k.fine = true → (keyOf P mi.kt k.val).isSome = true) : minf P t = some mi := by
  classical
  unfold minf
  rw [if_pos]
  · exact h0
  · intro mi' h
    rw [h0] at h
    cases h
    exact ⟨K, hk⟩

theorem wf_in64 {n : Int} (h : in64 n = true) : (Lit.int .i64 n).wf = true := by
  unfold in64 at h
  simp only [decide_eq_true_eq] at h
  have := WalkArith.wf_i64 (n := n)
  exact this ⟨h.1, by omega⟩

theorem minf_int {t kt : TypeId} {z : Value} (h0 : minf0 P t = some ⟨kt, 0, z⟩) (hu : P.underlying kt = some (.int .i64)) : minf P t = some ⟨kt, 0, z⟩ := by
  refine minf_of h0 (int_keyed hu) fun k h1 h2 => ?_
  cases k with
  | i n => simp only [MK.val]; rw [keyOf_int_mk hu (wf_in64 h2)]; rfl
  | p a b => cases h1
  | k s a b => cases h1

theorem lits_int {d : Nat} {t : TypeId} {n : Int} (hu : P.underlying t = some (.int .i64)) (h : in64 n = true) : P.keyLits (d + 1) t [.int .i64 n] = some [.int .i64 n] := by
  unfold Program.keyLits
  simp [hu, wf_in64 h]
theorem size_succ {kt : TypeId} (hrow : kt < P.types.size) : ∃ d, P.types.size = d + 1 := ⟨P.types.size - 1, (Nat.succ_pred_eq_of_pos (Nat.lt_of_le_of_lt (Nat.zero_le kt) hrow)).symm⟩

theorem minf_struct2 {t kt : TypeId} {z : Value} {fs : Array Field} {f0 f1 : Field} (hl : laidOutB P = true) (h0 : minf0 P t = some ⟨kt, 1, z⟩) (hrow : kt < P.types.size) (hsz : P.types.size + 1 + 1 ≤ 10000) (hk : P.keyTypeAt (P.types.size + 1) kt = true) (hu : P.underlying kt = some (.struct fs)) (hfs : fs = #[f0, f1])
    (hn : fs.all (·.name != "_") = true) (hc : P.cellsOf kt = 2) (o0 : f0.offset = 0) (o1 : f1.offset = 1) (u0 : P.underlying f0.type = some (.int .i64)) (u1 : P.underlying f1.type = some (.int .i64)) (c0 : P.cellsOf f0.type = 1) (c1 : P.cellsOf f1.type = 1) : minf P t = some ⟨kt, 1, z⟩ := by
  refine minf_of h0 (Keyed.of_law (deep_law_laid hl (m := P.types.size + 1) hsz hrow hk (by rw [hu]))) fun k h1 h2 => ?_
  cases k with
  | i n => cases h1
  | k s a b => cases h1
  | p a b =>
    simp only [MK.fine, Bool.and_eq_true] at h2
    obtain ⟨d, hd⟩ := size_succ hrow
    have hform : (Value.agg #[.int .i64 a, .int .i64 b]).formed P kt = true := by simp [Value.formed, hu, hc]
    have hkl : P.keyLits (P.types.size + 1) kt [.int .i64 a, .int .i64 b] = some [.int .i64 a, .int .i64 b] := by
      unfold Program.keyLits
      simp only [hu]
      subst hfs
      simp only [List.length_cons, List.length_nil, hc, hn, and_self, if_true]
      simp [o0, o1, c0, c1, hd, lits_int u0 h2.1, lits_int u1 h2.2]
    unfold keyOf
    rw [hu]
    simp only [MK.val, Program.keyType, hk, hform, Bool.and_self, if_true, Value.cells]
    rw [hkl]
    rfl

end Cal
