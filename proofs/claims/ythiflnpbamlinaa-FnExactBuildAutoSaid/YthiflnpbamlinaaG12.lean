/- A part of the proof: a calculus of our own over the model's code, and contracts of the program's functions. -/
import Derived.Test.YthiflnpbamlinaaProg
import Derived.KernelRfl
import Derived.Test.YthiflnpbamlinaaG9
/- Facts on the maps of this program, for the calculus. Printed by our own mapfacts.py. -/
namespace Cal
open Go Go.Proofs
theorem laidOutM : laidOutB Try.prog = true := by kernel_rfl
@[simp] theorem mi_145 : minf Try.prog 145 = some ⟨2, 0, .pointer none⟩ := minf_int (by kernel_rfl) (by kernel_rfl)
@[simp] theorem mi_159 : minf Try.prog 159 = some ⟨2, 0, .slice none 0 0⟩ := minf_int (by kernel_rfl) (by kernel_rfl)
@[simp] theorem mi_172 : minf Try.prog 172 = some ⟨219, 1, .int .i64 0⟩ := minf_struct2 laidOutM (by kernel_rfl) (of_decide_eq_true (by kernel_rfl)) (of_decide_eq_true (by kernel_rfl)) (by kernel_rfl) Try.underlying219 rfl (by kernel_rfl) (by kernel_rfl) rfl rfl (by kernel_rfl) (by kernel_rfl) (by kernel_rfl) (by kernel_rfl)
@[simp] theorem mi_195 : minf Try.prog 195 = some ⟨2, 0, .bool false⟩ := minf_int (by kernel_rfl) (by kernel_rfl)
@[simp] theorem mi_197 : minf Try.prog 197 = some ⟨2, 0, .int .i64 0⟩ := minf_int (by kernel_rfl) (by kernel_rfl)
@[simp] theorem mi_226 : minf Try.prog 226 = some ⟨2, 0, .int .i64 0⟩ := minf_int (by kernel_rfl) (by kernel_rfl)
end Cal
