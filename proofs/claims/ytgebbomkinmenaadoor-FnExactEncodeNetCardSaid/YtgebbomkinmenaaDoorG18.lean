/- A part of the proof: a calculus of our own over the model's code, and contracts of the program's functions. -/
import Derived.Test.YtgebbomkinmenaaDoorG13
import Derived.Test.YtgebbomkinmenaaDoorG16
/- The arguments' shapes: integers. -/
namespace Cal
open Go Go.Proofs
theorem fits_int {x : T} (h : Sh.fits (.int .i64) x) : ∃ n : Int, x = .v (.int .i64 n) ∧ (Lit.int .i64 n).wf = true := by
  unfold Sh.fits at h
  exact h
end Cal
