/- A part of the proof: a calculus of our own over the model's code, and contracts of the program's functions. -/
import Derived.Test.YtgebbomkinmenaaDoorProg
import Derived.KernelRfl
import Derived.Test.YtgebbomkinmenaaDoorG9
/- Facts on the maps of this program, for the calculus. Printed by our own mapfacts.py. -/
namespace Cal
open Go Go.Proofs
theorem laidOutM : laidOutB Tryd.prog = true := by kernel_rfl
@[simp] theorem mi_81 : minf Tryd.prog 81 = some ⟨2, 0, .bool false⟩ := minf_int (by kernel_rfl) (by kernel_rfl)
@[simp] theorem mi_93 : minf Tryd.prog 93 = some ⟨87, 2, .bool false⟩ := minf_struct3 laidOutM (by kernel_rfl) (of_decide_eq_true (by kernel_rfl)) (of_decide_eq_true (by kernel_rfl)) (by kernel_rfl) Tryd.underlying87 rfl (by kernel_rfl) (by kernel_rfl) rfl rfl rfl (by kernel_rfl) (by kernel_rfl) (by kernel_rfl) (by kernel_rfl) (by kernel_rfl) (by kernel_rfl)
end Cal
