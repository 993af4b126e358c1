/- A part of the proof: a calculus of our own over the model's code, and contracts of the program's functions. -/
import Derived.Test.YthaebckdhcnkfaaProg
import Derived.KernelRfl
import Derived.Test.YthaebckdhcnkfaaG5
/- Facts on the maps of this program, for the calculus. Printed by our own mapfacts.py. -/
namespace Cal
open Go Go.Proofs
theorem laidOutM : laidOutB Try.prog = true := by kernel_rfl
@[simp] theorem mi_83 : minf Try.prog 83 = some ⟨109, 1, .int .i64 0⟩ := minf_struct2 laidOutM (by kernel_rfl) (of_decide_eq_true (by kernel_rfl)) (of_decide_eq_true (by kernel_rfl)) (by kernel_rfl) Try.underlying109 rfl (by kernel_rfl) (by kernel_rfl) rfl rfl (by kernel_rfl) (by kernel_rfl) (by kernel_rfl) (by kernel_rfl)
@[simp] theorem mi_101 : minf Try.prog 101 = some ⟨2, 0, .bool false⟩ := minf_int (by kernel_rfl) (by kernel_rfl)
end Cal
