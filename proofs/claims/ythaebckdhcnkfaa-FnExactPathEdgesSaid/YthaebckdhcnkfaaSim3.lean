/- A calculus of our own: more rules for reckoning: drawn regions, empty rows, nil. -/
import Derived.Test.YthaebckdhcnkfaaSim2
import Derived.Test.YthaebckdhcnkfaaTD
import Derived.Test.YthaebckdhcnkfaaTB
set_option linter.unusedSimpArgs false
set_option linter.unusedVariables false
namespace Cal
open Go Go.Proofs
@[simp] theorem muteB_true (d : Option Nat) : muteB true [] d = true := by simp [muteB]
@[simp] theorem muted_true (d : Nat) (v : AV) (f : Eff) : muted true d (some (v, f)) = if f.all (fun p => p.1.1 == d) = true then some (v, f) else none := rfl
@[simp] theorem appendR_empty (x : Int) (d : Nat) (id : Id) : appendR (some (.row 1 [])) d id 0 (intRow [x]) = some (.row (d, 0) 1 0 1, [(id, none), ((d, 0), some (.row 1 (intRow [x])))]) := rfl
@[simp] theorem take_marked (k : Int) (n : Nat) : (intRow (marked k n)).take n = intRow (marked k n) := by
  have := take_intRow (marked k n)
  rwa [marked_length] at this
@[simp] theorem take_edgesTo (g : Gr) (p : List Int) (n : Nat) : (intRow (edgesTo g p n)).take n = intRow (edgesTo g p n) := by
  have := take_intRow (edgesTo g p n)
  rwa [edgesTo_length] at this
theorem callsF_nil {P : Program} {f : FuncId} {ags : List Arg} {outs : List (Option Arg)} (h : CallsF P f ags (.t (.v (.slice none 0 0))) outs) : CallsF P f ags (.t (ints [])) outs := by
  refine ⟨h.1, h.2.1, fun w S us usF ab a b c d e => (h.2.2 w S us usF ab a b c d e).mono fun e w' he => ?_⟩
  obtain ⟨u, S', bs, h1, h2, h3, h4, h5, h6, h7, h8⟩ := he
  refine ⟨u, S', bs, h1, h2, h3, h4, ?_, h6, h7, h8⟩
  unfold RVrep at h5 ⊢
  refine ⟨h5.1, ?_⟩
  have h9 := h5.2
  unfold Trep at h9
  rw [h9.1]
  unfold ints Trep
  exact ⟨none, 0, 0, rfl, rfl, Nat.le_refl _, by unfold maxLen; omega, fun h => absurd h (by omega)⟩
end Cal
