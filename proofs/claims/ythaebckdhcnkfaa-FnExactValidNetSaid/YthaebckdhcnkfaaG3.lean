/- A part of the proof: a calculus of our own over the model's code, and contracts of the program's functions. -/
import Derived.Test.YthaebckdhcnkfaaProg
import Derived.KernelRfl
import Derived.Test.YthaebckdhcnkfaaG1
/- Facts on the types of this program (each computed by the kernel), for the calculus. Printed by our own facts.py. -/
namespace Cal
open Go Go.Proofs
@[simp] theorem ti_2 : tinf Try.prog 2 = some ⟨false, 1, 8, [.int .i64 0]⟩ := by kernel_rfl
@[simp] theorem ti_3 : tinf Try.prog 3 = some ⟨false, 1, 8, [.int .i64 0]⟩ := by kernel_rfl
@[simp] theorem ti_4 : tinf Try.prog 4 = some ⟨false, 1, 1, [.bool false]⟩ := by kernel_rfl
@[simp] theorem ti_22 : tinf Try.prog 22 = some ⟨false, 1, 24, [.slice none 0 0]⟩ := by kernel_rfl
@[simp] theorem ti_24 : tinf Try.prog 24 = some ⟨true, 7, 168, [.slice none 0 0, .slice none 0 0, .slice none 0 0, .slice none 0 0, .slice none 0 0, .slice none 0 0, .slice none 0 0]⟩ := by kernel_rfl
@[simp] theorem ti_27 : tinf Try.prog 27 = some ⟨true, 7, 168, [.slice none 0 0, .slice none 0 0, .slice none 0 0, .slice none 0 0, .slice none 0 0, .slice none 0 0, .slice none 0 0]⟩ := by kernel_rfl
@[simp] theorem ti_31 : tinf Try.prog 31 = some ⟨false, 1, 24, [.slice none 0 0]⟩ := by kernel_rfl
@[simp] theorem ti_33 : tinf Try.prog 33 = some ⟨true, 5, 120, [.slice none 0 0, .slice none 0 0, .slice none 0 0, .slice none 0 0, .slice none 0 0]⟩ := by kernel_rfl
@[simp] theorem ti_36 : tinf Try.prog 36 = some ⟨true, 5, 120, [.slice none 0 0, .slice none 0 0, .slice none 0 0, .slice none 0 0, .slice none 0 0]⟩ := by kernel_rfl
@[simp] theorem ti_51 : tinf Try.prog 51 = some ⟨false, 1, 24, [.slice none 0 0]⟩ := by kernel_rfl
@[simp] theorem ti_52 : tinf Try.prog 52 = some ⟨false, 1, 24, [.slice none 0 0]⟩ := by kernel_rfl
@[simp] theorem ti_53 : tinf Try.prog 53 = some ⟨false, 1, 24, [.slice none 0 0]⟩ := by kernel_rfl
@[simp] theorem ti_55 : tinf Try.prog 55 = some ⟨true, 5, 104, [.slice none 0 0, .slice none 0 0, .slice none 0 0, .slice none 0 0, .int .i64 0]⟩ := by kernel_rfl
@[simp] theorem ti_58 : tinf Try.prog 58 = some ⟨false, 1, 24, [.slice none 0 0]⟩ := by kernel_rfl
@[simp] theorem ti_59 : tinf Try.prog 59 = some ⟨false, 1, 24, [.slice none 0 0]⟩ := by kernel_rfl
@[simp] theorem ti_60 : tinf Try.prog 60 = some ⟨false, 1, 24, [.slice none 0 0]⟩ := by kernel_rfl
@[simp] theorem ti_62 : tinf Try.prog 62 = some ⟨true, 5, 104, [.slice none 0 0, .slice none 0 0, .slice none 0 0, .slice none 0 0, .int .i64 0]⟩ := by kernel_rfl
@[simp] theorem ti_72 : tinf Try.prog 72 = some ⟨true, 1, 24, [.slice none 0 0]⟩ := by kernel_rfl
@[simp] theorem ti_90 : tinf Try.prog 90 = some ⟨true, 4, 64, [.int .i64 0, .bool false, .slice none 0 0, .slice none 0 0]⟩ := by kernel_rfl
@[simp] theorem ti_94 : tinf Try.prog 94 = some ⟨true, 7, 72, [.int .i64 0, .bool false, .int .i64 0, .int .i64 0, .bool false, .int .i64 0, .slice none 0 0]⟩ := by kernel_rfl
@[simp] theorem ti_96 : tinf Try.prog 96 = some ⟨true, 3, 24, [.int .i64 0, .int .i64 0, .int .i64 0]⟩ := by kernel_rfl
@[simp] theorem ti_109 : tinf Try.prog 109 = some ⟨true, 2, 16, [.int .i64 0, .int .i64 0]⟩ := by kernel_rfl
@[simp] theorem ti_111 : tinf Try.prog 111 = some ⟨true, 4, 64, [.int .i64 0, .bool false, .slice none 0 0, .slice none 0 0]⟩ := by kernel_rfl
@[simp] theorem ti_113 : tinf Try.prog 113 = some ⟨true, 7, 72, [.int .i64 0, .bool false, .int .i64 0, .int .i64 0, .bool false, .int .i64 0, .slice none 0 0]⟩ := by kernel_rfl
@[simp] theorem ti_118 : tinf Try.prog 118 = some ⟨true, 3, 24, [.int .i64 0, .int .i64 0, .int .i64 0]⟩ := by kernel_rfl
@[simp] theorem el_22 : elemOf Try.prog 22 = some (2, ⟨false, 1, 8, [.int .i64 0]⟩) := by kernel_rfl
@[simp] theorem el_31 : elemOf Try.prog 31 = some (4, ⟨false, 1, 1, [.bool false]⟩) := by kernel_rfl
@[simp] theorem el_51 : elemOf Try.prog 51 = some (111, ⟨true, 4, 64, [.int .i64 0, .bool false, .slice none 0 0, .slice none 0 0]⟩) := by kernel_rfl
@[simp] theorem el_52 : elemOf Try.prog 52 = some (113, ⟨true, 7, 72, [.int .i64 0, .bool false, .int .i64 0, .int .i64 0, .bool false, .int .i64 0, .slice none 0 0]⟩) := by kernel_rfl
@[simp] theorem el_53 : elemOf Try.prog 53 = some (118, ⟨true, 3, 24, [.int .i64 0, .int .i64 0, .int .i64 0]⟩) := by kernel_rfl
@[simp] theorem el_58 : elemOf Try.prog 58 = some (90, ⟨true, 4, 64, [.int .i64 0, .bool false, .slice none 0 0, .slice none 0 0]⟩) := by kernel_rfl
@[simp] theorem el_59 : elemOf Try.prog 59 = some (94, ⟨true, 7, 72, [.int .i64 0, .bool false, .int .i64 0, .int .i64 0, .bool false, .int .i64 0, .slice none 0 0]⟩) := by kernel_rfl
@[simp] theorem el_60 : elemOf Try.prog 60 = some (96, ⟨true, 3, 24, [.int .i64 0, .int .i64 0, .int .i64 0]⟩) := by kernel_rfl
@[simp] theorem el_68 : elemOf Try.prog 68 = some (72, ⟨true, 1, 24, [.slice none 0 0]⟩) := by kernel_rfl
@[simp] theorem el_74 : elemOf Try.prog 74 = some (3, ⟨false, 1, 8, [.int .i64 0]⟩) := by kernel_rfl
@[simp] theorem fo_24_0 : foff Try.prog 24 0 = some (0, 1, false) := by kernel_rfl
@[simp] theorem fo_24_1 : foff Try.prog 24 1 = some (1, 1, false) := by kernel_rfl
@[simp] theorem fo_24_2 : foff Try.prog 24 2 = some (2, 1, false) := by kernel_rfl
@[simp] theorem fo_24_3 : foff Try.prog 24 3 = some (3, 1, false) := by kernel_rfl
@[simp] theorem fo_24_4 : foff Try.prog 24 4 = some (4, 1, false) := by kernel_rfl
@[simp] theorem fo_24_5 : foff Try.prog 24 5 = some (5, 1, false) := by kernel_rfl
@[simp] theorem fo_24_6 : foff Try.prog 24 6 = some (6, 1, false) := by kernel_rfl
@[simp] theorem fo_27_0 : foff Try.prog 27 0 = some (0, 1, false) := by kernel_rfl
@[simp] theorem fo_27_1 : foff Try.prog 27 1 = some (1, 1, false) := by kernel_rfl
@[simp] theorem fo_27_2 : foff Try.prog 27 2 = some (2, 1, false) := by kernel_rfl
@[simp] theorem fo_27_3 : foff Try.prog 27 3 = some (3, 1, false) := by kernel_rfl
@[simp] theorem fo_27_4 : foff Try.prog 27 4 = some (4, 1, false) := by kernel_rfl
@[simp] theorem fo_27_5 : foff Try.prog 27 5 = some (5, 1, false) := by kernel_rfl
@[simp] theorem fo_27_6 : foff Try.prog 27 6 = some (6, 1, false) := by kernel_rfl
@[simp] theorem fo_33_0 : foff Try.prog 33 0 = some (0, 1, false) := by kernel_rfl
@[simp] theorem fo_33_1 : foff Try.prog 33 1 = some (1, 1, false) := by kernel_rfl
@[simp] theorem fo_33_2 : foff Try.prog 33 2 = some (2, 1, false) := by kernel_rfl
@[simp] theorem fo_33_3 : foff Try.prog 33 3 = some (3, 1, false) := by kernel_rfl
@[simp] theorem fo_33_4 : foff Try.prog 33 4 = some (4, 1, false) := by kernel_rfl
@[simp] theorem fo_36_0 : foff Try.prog 36 0 = some (0, 1, false) := by kernel_rfl
@[simp] theorem fo_36_1 : foff Try.prog 36 1 = some (1, 1, false) := by kernel_rfl
@[simp] theorem fo_36_2 : foff Try.prog 36 2 = some (2, 1, false) := by kernel_rfl
@[simp] theorem fo_36_3 : foff Try.prog 36 3 = some (3, 1, false) := by kernel_rfl
@[simp] theorem fo_36_4 : foff Try.prog 36 4 = some (4, 1, false) := by kernel_rfl
@[simp] theorem fo_55_0 : foff Try.prog 55 0 = some (0, 1, false) := by kernel_rfl
@[simp] theorem fo_55_1 : foff Try.prog 55 1 = some (1, 1, false) := by kernel_rfl
@[simp] theorem fo_55_2 : foff Try.prog 55 2 = some (2, 1, false) := by kernel_rfl
@[simp] theorem fo_55_3 : foff Try.prog 55 3 = some (3, 1, false) := by kernel_rfl
@[simp] theorem fo_55_4 : foff Try.prog 55 4 = some (4, 1, false) := by kernel_rfl
@[simp] theorem fo_62_0 : foff Try.prog 62 0 = some (0, 1, false) := by kernel_rfl
@[simp] theorem fo_62_1 : foff Try.prog 62 1 = some (1, 1, false) := by kernel_rfl
@[simp] theorem fo_62_2 : foff Try.prog 62 2 = some (2, 1, false) := by kernel_rfl
@[simp] theorem fo_62_3 : foff Try.prog 62 3 = some (3, 1, false) := by kernel_rfl
@[simp] theorem fo_62_4 : foff Try.prog 62 4 = some (4, 1, false) := by kernel_rfl
@[simp] theorem fo_72_0 : foff Try.prog 72 0 = some (0, 1, false) := by kernel_rfl
@[simp] theorem fo_90_0 : foff Try.prog 90 0 = some (0, 1, false) := by kernel_rfl
@[simp] theorem fo_90_1 : foff Try.prog 90 1 = some (1, 1, false) := by kernel_rfl
@[simp] theorem fo_90_2 : foff Try.prog 90 2 = some (2, 1, false) := by kernel_rfl
@[simp] theorem fo_90_3 : foff Try.prog 90 3 = some (3, 1, false) := by kernel_rfl
@[simp] theorem fo_94_0 : foff Try.prog 94 0 = some (0, 1, false) := by kernel_rfl
@[simp] theorem fo_94_1 : foff Try.prog 94 1 = some (1, 1, false) := by kernel_rfl
@[simp] theorem fo_94_2 : foff Try.prog 94 2 = some (2, 1, false) := by kernel_rfl
@[simp] theorem fo_94_3 : foff Try.prog 94 3 = some (3, 1, false) := by kernel_rfl
@[simp] theorem fo_94_4 : foff Try.prog 94 4 = some (4, 1, false) := by kernel_rfl
@[simp] theorem fo_94_5 : foff Try.prog 94 5 = some (5, 1, false) := by kernel_rfl
@[simp] theorem fo_94_6 : foff Try.prog 94 6 = some (6, 1, false) := by kernel_rfl
@[simp] theorem fo_96_0 : foff Try.prog 96 0 = some (0, 1, false) := by kernel_rfl
@[simp] theorem fo_96_1 : foff Try.prog 96 1 = some (1, 1, false) := by kernel_rfl
@[simp] theorem fo_96_2 : foff Try.prog 96 2 = some (2, 1, false) := by kernel_rfl
@[simp] theorem fo_109_0 : foff Try.prog 109 0 = some (0, 1, false) := by kernel_rfl
@[simp] theorem fo_109_1 : foff Try.prog 109 1 = some (1, 1, false) := by kernel_rfl
@[simp] theorem fo_111_0 : foff Try.prog 111 0 = some (0, 1, false) := by kernel_rfl
@[simp] theorem fo_111_1 : foff Try.prog 111 1 = some (1, 1, false) := by kernel_rfl
@[simp] theorem fo_111_2 : foff Try.prog 111 2 = some (2, 1, false) := by kernel_rfl
@[simp] theorem fo_111_3 : foff Try.prog 111 3 = some (3, 1, false) := by kernel_rfl
@[simp] theorem fo_113_0 : foff Try.prog 113 0 = some (0, 1, false) := by kernel_rfl
@[simp] theorem fo_113_1 : foff Try.prog 113 1 = some (1, 1, false) := by kernel_rfl
@[simp] theorem fo_113_2 : foff Try.prog 113 2 = some (2, 1, false) := by kernel_rfl
@[simp] theorem fo_113_3 : foff Try.prog 113 3 = some (3, 1, false) := by kernel_rfl
@[simp] theorem fo_113_4 : foff Try.prog 113 4 = some (4, 1, false) := by kernel_rfl
@[simp] theorem fo_113_5 : foff Try.prog 113 5 = some (5, 1, false) := by kernel_rfl
@[simp] theorem fo_113_6 : foff Try.prog 113 6 = some (6, 1, false) := by kernel_rfl
@[simp] theorem fo_118_0 : foff Try.prog 118 0 = some (0, 1, false) := by kernel_rfl
@[simp] theorem fo_118_1 : foff Try.prog 118 1 = some (1, 1, false) := by kernel_rfl
@[simp] theorem fo_118_2 : foff Try.prog 118 2 = some (2, 1, false) := by kernel_rfl
@[simp] theorem un_4 : Program.underlying Try.prog 4 = some .bool := by kernel_rfl
@[simp] theorem tk_22 : tkind Try.prog 22 = .sl 1 := by kernel_rfl
@[simp] theorem tk_31 : tkind Try.prog 31 = .sl 1 := by kernel_rfl
@[simp] theorem tk_51 : tkind Try.prog 51 = .sl 4 := by kernel_rfl
@[simp] theorem tk_52 : tkind Try.prog 52 = .sl 7 := by kernel_rfl
@[simp] theorem tk_53 : tkind Try.prog 53 = .sl 3 := by kernel_rfl
@[simp] theorem tk_58 : tkind Try.prog 58 = .sl 4 := by kernel_rfl
@[simp] theorem tk_59 : tkind Try.prog 59 = .sl 7 := by kernel_rfl
@[simp] theorem tk_60 : tkind Try.prog 60 = .sl 3 := by kernel_rfl
@[simp] theorem tk_68 : tkind Try.prog 68 = .sl 1 := by kernel_rfl
@[simp] theorem os_72 : okStruct Try.prog 72 = true := by kernel_rfl
@[simp] theorem os_109 : okStruct Try.prog 109 = true := by kernel_rfl
end Cal
