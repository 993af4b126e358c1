/- A part of the proof: a calculus of our own over the model's code, and contracts of the program's functions. -/
import Derived.Test.YthiflnpbamlinaaProg
import Derived.KernelRfl
import Derived.Test.YthiflnpbamlinaaG4
/- Facts on the types of this program (each computed by the kernel), for the calculus. Printed by our own facts.py. -/
namespace Cal
open Go Go.Proofs
@[simp] theorem ti_2 : tinf Try.prog 2 = some ⟨false, 1, 8, [.int .i64 0]⟩ := by kernel_rfl
@[simp] theorem ti_3 : tinf Try.prog 3 = some ⟨false, 1, 8, [.int .i64 0]⟩ := by kernel_rfl
@[simp] theorem ti_4 : tinf Try.prog 4 = some ⟨false, 1, 1, [.bool false]⟩ := by kernel_rfl
@[simp] theorem ti_5 : tinf Try.prog 5 = some ⟨false, 1, 1, [.int .u8 0]⟩ := by kernel_rfl
@[simp] theorem ti_22 : tinf Try.prog 22 = some ⟨false, 1, 24, [.slice none 0 0]⟩ := by kernel_rfl
@[simp] theorem ti_23 : tinf Try.prog 23 = some ⟨false, 1, 24, [.slice none 0 0]⟩ := by kernel_rfl
@[simp] theorem ti_24 : tinf Try.prog 24 = some ⟨false, 1, 24, [.slice none 0 0]⟩ := by kernel_rfl
@[simp] theorem ti_25 : tinf Try.prog 25 = some ⟨false, 1, 24, [.slice none 0 0]⟩ := by kernel_rfl
@[simp] theorem ti_27 : tinf Try.prog 27 = some ⟨true, 5, 104, [.slice none 0 0, .slice none 0 0, .slice none 0 0, .slice none 0 0, .int .i64 0]⟩ := by kernel_rfl
@[simp] theorem ti_29 : tinf Try.prog 29 = some ⟨false, 1, 24, [.slice none 0 0]⟩ := by kernel_rfl
@[simp] theorem ti_31 : tinf Try.prog 31 = some ⟨true, 4, 96, [.slice none 0 0, .slice none 0 0, .slice none 0 0, .slice none 0 0]⟩ := by kernel_rfl
@[simp] theorem ti_33 : tinf Try.prog 33 = some ⟨false, 1, 24, [.slice none 0 0]⟩ := by kernel_rfl
@[simp] theorem ti_34 : tinf Try.prog 34 = some ⟨false, 1, 24, [.slice none 0 0]⟩ := by kernel_rfl
@[simp] theorem ti_35 : tinf Try.prog 35 = some ⟨false, 1, 24, [.slice none 0 0]⟩ := by kernel_rfl
@[simp] theorem ti_37 : tinf Try.prog 37 = some ⟨true, 5, 104, [.slice none 0 0, .slice none 0 0, .slice none 0 0, .slice none 0 0, .int .i64 0]⟩ := by kernel_rfl
@[simp] theorem ti_45 : tinf Try.prog 45 = some ⟨true, 7, 168, [.slice none 0 0, .slice none 0 0, .slice none 0 0, .slice none 0 0, .slice none 0 0, .slice none 0 0, .slice none 0 0]⟩ := by kernel_rfl
@[simp] theorem ti_48 : tinf Try.prog 48 = some ⟨true, 3, 40, [.int .i64 0, .int .i64 0, .slice none 0 0]⟩ := by kernel_rfl
@[simp] theorem ti_50 : tinf Try.prog 50 = some ⟨true, 7, 168, [.slice none 0 0, .slice none 0 0, .slice none 0 0, .slice none 0 0, .slice none 0 0, .slice none 0 0, .slice none 0 0]⟩ := by kernel_rfl
@[simp] theorem ti_59 : tinf Try.prog 59 = some ⟨false, 1, 24, [.slice none 0 0]⟩ := by kernel_rfl
@[simp] theorem ti_61 : tinf Try.prog 61 = some ⟨true, 5, 120, [.slice none 0 0, .slice none 0 0, .slice none 0 0, .slice none 0 0, .slice none 0 0]⟩ := by kernel_rfl
@[simp] theorem ti_63 : tinf Try.prog 63 = some ⟨true, 6, 128, [.int .i64 0, .slice none 0 0, .slice none 0 0, .slice none 0 0, .slice none 0 0, .slice none 0 0]⟩ := by kernel_rfl
@[simp] theorem ti_65 : tinf Try.prog 65 = some ⟨false, 1, 24, [.slice none 0 0]⟩ := by kernel_rfl
@[simp] theorem ti_73 : tinf Try.prog 73 = some ⟨true, 3, 24, [.int .i64 0, .int .i64 0, .int .i64 0]⟩ := by kernel_rfl
@[simp] theorem ti_79 : tinf Try.prog 79 = some ⟨false, 1, 24, [.slice none 0 0]⟩ := by kernel_rfl
@[simp] theorem ti_81 : tinf Try.prog 81 = some ⟨true, 2, 48, [.slice none 0 0, .slice none 0 0]⟩ := by kernel_rfl
@[simp] theorem ti_85 : tinf Try.prog 85 = some ⟨false, 1, 24, [.slice none 0 0]⟩ := by kernel_rfl
@[simp] theorem ti_94 : tinf Try.prog 94 = some ⟨true, 7, 72, [.int .i64 0, .bool false, .int .i64 0, .int .i64 0, .bool false, .int .i64 0, .slice none 0 0]⟩ := by kernel_rfl
@[simp] theorem ti_96 : tinf Try.prog 96 = some ⟨true, 2, 16, [.int .i64 0, .int .i64 0]⟩ := by kernel_rfl
@[simp] theorem ti_98 : tinf Try.prog 98 = some ⟨true, 3, 40, [.int .i64 0, .bool false, .slice none 0 0]⟩ := by kernel_rfl
@[simp] theorem ti_100 : tinf Try.prog 100 = some ⟨true, 4, 64, [.int .i64 0, .bool false, .slice none 0 0, .slice none 0 0]⟩ := by kernel_rfl
@[simp] theorem ti_102 : tinf Try.prog 102 = some ⟨true, 7, 56, [.int .i64 0, .int .i64 0, .int .i64 0, .int .i64 0, .int .i64 0, .bool false, .int .i64 0]⟩ := by kernel_rfl
@[simp] theorem ti_125 : tinf Try.prog 125 = some ⟨true, 3, 56, [.slice none 0 0, .int .i64 0, .slice none 0 0]⟩ := by kernel_rfl
@[simp] theorem ti_133 : tinf Try.prog 133 = some ⟨true, 3, 40, [.int .i64 0, .bool false, .slice none 0 0]⟩ := by kernel_rfl
@[simp] theorem ti_138 : tinf Try.prog 138 = some ⟨true, 1, 24, [.slice none 0 0]⟩ := by kernel_rfl
@[simp] theorem ti_143 : tinf Try.prog 143 = some ⟨false, 1, 8, [.pointer none]⟩ := by kernel_rfl
@[simp] theorem ti_145 : tinf Try.prog 145 = some ⟨false, 1, 8, [.map none]⟩ := by kernel_rfl
@[simp] theorem ti_160 : tinf Try.prog 160 = some ⟨true, 2, 16, [.int .i64 0, .int .i64 0]⟩ := by kernel_rfl
@[simp] theorem ti_169 : tinf Try.prog 169 = some ⟨true, 4, 48, [.slice none 0 0, .int .i64 0, .int .i64 0, .int .i64 0]⟩ := by kernel_rfl
@[simp] theorem ti_181 : tinf Try.prog 181 = some ⟨true, 3, 24, [.int .i64 0, .int .i64 0, .int .i64 0]⟩ := by kernel_rfl
@[simp] theorem ti_187 : tinf Try.prog 187 = some ⟨true, 4, 64, [.int .i64 0, .bool false, .slice none 0 0, .slice none 0 0]⟩ := by kernel_rfl
@[simp] theorem ti_189 : tinf Try.prog 189 = some ⟨true, 7, 72, [.int .i64 0, .bool false, .int .i64 0, .int .i64 0, .bool false, .int .i64 0, .slice none 0 0]⟩ := by kernel_rfl
@[simp] theorem ti_194 : tinf Try.prog 194 = some ⟨true, 3, 24, [.int .i64 0, .int .i64 0, .int .i64 0]⟩ := by kernel_rfl
@[simp] theorem ti_198 : tinf Try.prog 198 = some ⟨false, 1, 24, [.slice none 0 0]⟩ := by kernel_rfl
@[simp] theorem ti_203 : tinf Try.prog 203 = some ⟨false, 1, 24, [.slice none 0 0]⟩ := by kernel_rfl
@[simp] theorem ti_206 : tinf Try.prog 206 = some ⟨true, 3, 24, [.int .i64 0, .int .i64 0, .int .i64 0]⟩ := by kernel_rfl
@[simp] theorem ti_207 : tinf Try.prog 207 = some ⟨false, 1, 24, [.slice none 0 0]⟩ := by kernel_rfl
@[simp] theorem ti_219 : tinf Try.prog 219 = some ⟨true, 2, 16, [.int .i64 0, .int .i64 0]⟩ := by kernel_rfl
@[simp] theorem ti_224 : tinf Try.prog 224 = some ⟨false, 1, 24, [.slice none 0 0]⟩ := by kernel_rfl
@[simp] theorem ti_226 : tinf Try.prog 226 = some ⟨false, 1, 8, [.map none]⟩ := by kernel_rfl
@[simp] theorem ti_256 : tinf Try.prog 256 = some ⟨true, 2, 48, [.slice none 0 0, .slice none 0 0]⟩ := by kernel_rfl
@[simp] theorem ti_257 : tinf Try.prog 257 = some ⟨false, 1, 8, [.nilFunc]⟩ := by kernel_rfl
@[simp] theorem ti_259 : tinf Try.prog 259 = some ⟨false, 1, 8, [.nilFunc]⟩ := by kernel_rfl
@[simp] theorem el_22 : elemOf Try.prog 22 = some (2, ⟨false, 1, 8, [.int .i64 0]⟩) := by kernel_rfl
@[simp] theorem el_23 : elemOf Try.prog 23 = some (187, ⟨true, 4, 64, [.int .i64 0, .bool false, .slice none 0 0, .slice none 0 0]⟩) := by kernel_rfl
@[simp] theorem el_24 : elemOf Try.prog 24 = some (189, ⟨true, 7, 72, [.int .i64 0, .bool false, .int .i64 0, .int .i64 0, .bool false, .int .i64 0, .slice none 0 0]⟩) := by kernel_rfl
@[simp] theorem el_25 : elemOf Try.prog 25 = some (194, ⟨true, 3, 24, [.int .i64 0, .int .i64 0, .int .i64 0]⟩) := by kernel_rfl
@[simp] theorem el_29 : elemOf Try.prog 29 = some (102, ⟨true, 7, 56, [.int .i64 0, .int .i64 0, .int .i64 0, .int .i64 0, .int .i64 0, .bool false, .int .i64 0]⟩) := by kernel_rfl
@[simp] theorem el_33 : elemOf Try.prog 33 = some (100, ⟨true, 4, 64, [.int .i64 0, .bool false, .slice none 0 0, .slice none 0 0]⟩) := by kernel_rfl
@[simp] theorem el_34 : elemOf Try.prog 34 = some (94, ⟨true, 7, 72, [.int .i64 0, .bool false, .int .i64 0, .int .i64 0, .bool false, .int .i64 0, .slice none 0 0]⟩) := by kernel_rfl
@[simp] theorem el_35 : elemOf Try.prog 35 = some (181, ⟨true, 3, 24, [.int .i64 0, .int .i64 0, .int .i64 0]⟩) := by kernel_rfl
@[simp] theorem el_57 : elemOf Try.prog 57 = some (133, ⟨true, 3, 40, [.int .i64 0, .bool false, .slice none 0 0]⟩) := by kernel_rfl
@[simp] theorem el_59 : elemOf Try.prog 59 = some (4, ⟨false, 1, 1, [.bool false]⟩) := by kernel_rfl
@[simp] theorem el_65 : elemOf Try.prog 65 = some (98, ⟨true, 3, 40, [.int .i64 0, .bool false, .slice none 0 0]⟩) := by kernel_rfl
@[simp] theorem el_79 : elemOf Try.prog 79 = some (96, ⟨true, 2, 16, [.int .i64 0, .int .i64 0]⟩) := by kernel_rfl
@[simp] theorem el_85 : elemOf Try.prog 85 = some (5, ⟨false, 1, 1, [.int .u8 0]⟩) := by kernel_rfl
@[simp] theorem el_126 : elemOf Try.prog 126 = some (125, ⟨true, 3, 56, [.slice none 0 0, .int .i64 0, .slice none 0 0]⟩) := by kernel_rfl
@[simp] theorem el_135 : elemOf Try.prog 135 = some (138, ⟨true, 1, 24, [.slice none 0 0]⟩) := by kernel_rfl
@[simp] theorem el_149 : elemOf Try.prog 149 = some (143, ⟨false, 1, 8, [.pointer none]⟩) := by kernel_rfl
@[simp] theorem el_184 : elemOf Try.prog 184 = some (3, ⟨false, 1, 8, [.int .i64 0]⟩) := by kernel_rfl
@[simp] theorem el_198 : elemOf Try.prog 198 = some (22, ⟨false, 1, 24, [.slice none 0 0]⟩) := by kernel_rfl
@[simp] theorem el_203 : elemOf Try.prog 203 = some (206, ⟨true, 3, 24, [.int .i64 0, .int .i64 0, .int .i64 0]⟩) := by kernel_rfl
@[simp] theorem el_207 : elemOf Try.prog 207 = some (206, ⟨true, 3, 24, [.int .i64 0, .int .i64 0, .int .i64 0]⟩) := by kernel_rfl
@[simp] theorem el_224 : elemOf Try.prog 224 = some (256, ⟨true, 2, 48, [.slice none 0 0, .slice none 0 0]⟩) := by kernel_rfl
@[simp] theorem fo_27_0 : foff Try.prog 27 0 = some (0, 1, false) := by kernel_rfl
@[simp] theorem fo_27_1 : foff Try.prog 27 1 = some (1, 1, false) := by kernel_rfl
@[simp] theorem fo_27_2 : foff Try.prog 27 2 = some (2, 1, false) := by kernel_rfl
@[simp] theorem fo_27_3 : foff Try.prog 27 3 = some (3, 1, false) := by kernel_rfl
@[simp] theorem fo_27_4 : foff Try.prog 27 4 = some (4, 1, false) := by kernel_rfl
@[simp] theorem fo_31_0 : foff Try.prog 31 0 = some (0, 1, false) := by kernel_rfl
@[simp] theorem fo_31_1 : foff Try.prog 31 1 = some (1, 1, false) := by kernel_rfl
@[simp] theorem fo_31_2 : foff Try.prog 31 2 = some (2, 1, false) := by kernel_rfl
@[simp] theorem fo_31_3 : foff Try.prog 31 3 = some (3, 1, false) := by kernel_rfl
@[simp] theorem fo_37_0 : foff Try.prog 37 0 = some (0, 1, false) := by kernel_rfl
@[simp] theorem fo_37_1 : foff Try.prog 37 1 = some (1, 1, false) := by kernel_rfl
@[simp] theorem fo_37_2 : foff Try.prog 37 2 = some (2, 1, false) := by kernel_rfl
@[simp] theorem fo_37_3 : foff Try.prog 37 3 = some (3, 1, false) := by kernel_rfl
@[simp] theorem fo_37_4 : foff Try.prog 37 4 = some (4, 1, false) := by kernel_rfl
@[simp] theorem fo_45_0 : foff Try.prog 45 0 = some (0, 1, false) := by kernel_rfl
@[simp] theorem fo_45_1 : foff Try.prog 45 1 = some (1, 1, false) := by kernel_rfl
@[simp] theorem fo_45_2 : foff Try.prog 45 2 = some (2, 1, false) := by kernel_rfl
@[simp] theorem fo_45_3 : foff Try.prog 45 3 = some (3, 1, false) := by kernel_rfl
@[simp] theorem fo_45_4 : foff Try.prog 45 4 = some (4, 1, false) := by kernel_rfl
@[simp] theorem fo_45_5 : foff Try.prog 45 5 = some (5, 1, false) := by kernel_rfl
@[simp] theorem fo_45_6 : foff Try.prog 45 6 = some (6, 1, false) := by kernel_rfl
@[simp] theorem fo_48_0 : foff Try.prog 48 0 = some (0, 1, false) := by kernel_rfl
@[simp] theorem fo_48_1 : foff Try.prog 48 1 = some (1, 1, false) := by kernel_rfl
@[simp] theorem fo_48_2 : foff Try.prog 48 2 = some (2, 1, false) := by kernel_rfl
@[simp] theorem fo_50_0 : foff Try.prog 50 0 = some (0, 1, false) := by kernel_rfl
@[simp] theorem fo_50_1 : foff Try.prog 50 1 = some (1, 1, false) := by kernel_rfl
@[simp] theorem fo_50_2 : foff Try.prog 50 2 = some (2, 1, false) := by kernel_rfl
@[simp] theorem fo_50_3 : foff Try.prog 50 3 = some (3, 1, false) := by kernel_rfl
@[simp] theorem fo_50_4 : foff Try.prog 50 4 = some (4, 1, false) := by kernel_rfl
@[simp] theorem fo_50_5 : foff Try.prog 50 5 = some (5, 1, false) := by kernel_rfl
@[simp] theorem fo_50_6 : foff Try.prog 50 6 = some (6, 1, false) := by kernel_rfl
@[simp] theorem fo_61_0 : foff Try.prog 61 0 = some (0, 1, false) := by kernel_rfl
@[simp] theorem fo_61_1 : foff Try.prog 61 1 = some (1, 1, false) := by kernel_rfl
@[simp] theorem fo_61_2 : foff Try.prog 61 2 = some (2, 1, false) := by kernel_rfl
@[simp] theorem fo_61_3 : foff Try.prog 61 3 = some (3, 1, false) := by kernel_rfl
@[simp] theorem fo_61_4 : foff Try.prog 61 4 = some (4, 1, false) := by kernel_rfl
@[simp] theorem fo_63_0 : foff Try.prog 63 0 = some (0, 1, false) := by kernel_rfl
@[simp] theorem fo_63_1 : foff Try.prog 63 1 = some (1, 5, true) := by kernel_rfl
@[simp] theorem fo_73_0 : foff Try.prog 73 0 = some (0, 1, false) := by kernel_rfl
@[simp] theorem fo_73_1 : foff Try.prog 73 1 = some (1, 1, false) := by kernel_rfl
@[simp] theorem fo_73_2 : foff Try.prog 73 2 = some (2, 1, false) := by kernel_rfl
@[simp] theorem fo_81_0 : foff Try.prog 81 0 = some (0, 1, false) := by kernel_rfl
@[simp] theorem fo_81_1 : foff Try.prog 81 1 = some (1, 1, false) := by kernel_rfl
@[simp] theorem fo_94_0 : foff Try.prog 94 0 = some (0, 1, false) := by kernel_rfl
@[simp] theorem fo_94_1 : foff Try.prog 94 1 = some (1, 1, false) := by kernel_rfl
@[simp] theorem fo_94_2 : foff Try.prog 94 2 = some (2, 1, false) := by kernel_rfl
@[simp] theorem fo_94_3 : foff Try.prog 94 3 = some (3, 1, false) := by kernel_rfl
@[simp] theorem fo_94_4 : foff Try.prog 94 4 = some (4, 1, false) := by kernel_rfl
@[simp] theorem fo_94_5 : foff Try.prog 94 5 = some (5, 1, false) := by kernel_rfl
@[simp] theorem fo_94_6 : foff Try.prog 94 6 = some (6, 1, false) := by kernel_rfl
@[simp] theorem fo_96_0 : foff Try.prog 96 0 = some (0, 1, false) := by kernel_rfl
@[simp] theorem fo_96_1 : foff Try.prog 96 1 = some (1, 1, false) := by kernel_rfl
@[simp] theorem fo_98_0 : foff Try.prog 98 0 = some (0, 1, false) := by kernel_rfl
@[simp] theorem fo_98_1 : foff Try.prog 98 1 = some (1, 1, false) := by kernel_rfl
@[simp] theorem fo_98_2 : foff Try.prog 98 2 = some (2, 1, false) := by kernel_rfl
@[simp] theorem fo_100_0 : foff Try.prog 100 0 = some (0, 1, false) := by kernel_rfl
@[simp] theorem fo_100_1 : foff Try.prog 100 1 = some (1, 1, false) := by kernel_rfl
@[simp] theorem fo_100_2 : foff Try.prog 100 2 = some (2, 1, false) := by kernel_rfl
@[simp] theorem fo_100_3 : foff Try.prog 100 3 = some (3, 1, false) := by kernel_rfl
@[simp] theorem fo_102_0 : foff Try.prog 102 0 = some (0, 1, false) := by kernel_rfl
@[simp] theorem fo_102_1 : foff Try.prog 102 1 = some (1, 1, false) := by kernel_rfl
@[simp] theorem fo_102_2 : foff Try.prog 102 2 = some (2, 1, false) := by kernel_rfl
@[simp] theorem fo_102_3 : foff Try.prog 102 3 = some (3, 1, false) := by kernel_rfl
@[simp] theorem fo_102_4 : foff Try.prog 102 4 = some (4, 1, false) := by kernel_rfl
@[simp] theorem fo_102_5 : foff Try.prog 102 5 = some (5, 1, false) := by kernel_rfl
@[simp] theorem fo_102_6 : foff Try.prog 102 6 = some (6, 1, false) := by kernel_rfl
@[simp] theorem fo_125_0 : foff Try.prog 125 0 = some (0, 1, false) := by kernel_rfl
@[simp] theorem fo_125_1 : foff Try.prog 125 1 = some (1, 1, false) := by kernel_rfl
@[simp] theorem fo_125_2 : foff Try.prog 125 2 = some (2, 1, false) := by kernel_rfl
@[simp] theorem fo_133_0 : foff Try.prog 133 0 = some (0, 1, false) := by kernel_rfl
@[simp] theorem fo_133_1 : foff Try.prog 133 1 = some (1, 1, false) := by kernel_rfl
@[simp] theorem fo_133_2 : foff Try.prog 133 2 = some (2, 1, false) := by kernel_rfl
@[simp] theorem fo_138_0 : foff Try.prog 138 0 = some (0, 1, false) := by kernel_rfl
@[simp] theorem fo_147_0 : foff Try.prog 147 0 = some (0, 1, false) := by kernel_rfl
@[simp] theorem fo_147_1 : foff Try.prog 147 1 = some (1, 1, false) := by kernel_rfl
@[simp] theorem fo_147_2 : foff Try.prog 147 2 = some (2, 1, false) := by kernel_rfl
@[simp] theorem fo_147_3 : foff Try.prog 147 3 = some (3, 1, false) := by kernel_rfl
@[simp] theorem fo_147_4 : foff Try.prog 147 4 = some (4, 1, false) := by kernel_rfl
@[simp] theorem fo_147_5 : foff Try.prog 147 5 = some (5, 1, false) := by kernel_rfl
@[simp] theorem fo_169_0 : foff Try.prog 169 0 = some (0, 1, false) := by kernel_rfl
@[simp] theorem fo_169_1 : foff Try.prog 169 1 = some (1, 1, false) := by kernel_rfl
@[simp] theorem fo_169_2 : foff Try.prog 169 2 = some (2, 1, false) := by kernel_rfl
@[simp] theorem fo_169_3 : foff Try.prog 169 3 = some (3, 1, false) := by kernel_rfl
@[simp] theorem fo_181_0 : foff Try.prog 181 0 = some (0, 1, false) := by kernel_rfl
@[simp] theorem fo_181_1 : foff Try.prog 181 1 = some (1, 1, false) := by kernel_rfl
@[simp] theorem fo_181_2 : foff Try.prog 181 2 = some (2, 1, false) := by kernel_rfl
@[simp] theorem fo_187_0 : foff Try.prog 187 0 = some (0, 1, false) := by kernel_rfl
@[simp] theorem fo_187_1 : foff Try.prog 187 1 = some (1, 1, false) := by kernel_rfl
@[simp] theorem fo_187_2 : foff Try.prog 187 2 = some (2, 1, false) := by kernel_rfl
@[simp] theorem fo_187_3 : foff Try.prog 187 3 = some (3, 1, false) := by kernel_rfl
@[simp] theorem fo_189_0 : foff Try.prog 189 0 = some (0, 1, false) := by kernel_rfl
@[simp] theorem fo_189_1 : foff Try.prog 189 1 = some (1, 1, false) := by kernel_rfl
@[simp] theorem fo_189_2 : foff Try.prog 189 2 = some (2, 1, false) := by kernel_rfl
@[simp] theorem fo_189_3 : foff Try.prog 189 3 = some (3, 1, false) := by kernel_rfl
@[simp] theorem fo_189_4 : foff Try.prog 189 4 = some (4, 1, false) := by kernel_rfl
@[simp] theorem fo_189_5 : foff Try.prog 189 5 = some (5, 1, false) := by kernel_rfl
@[simp] theorem fo_189_6 : foff Try.prog 189 6 = some (6, 1, false) := by kernel_rfl
@[simp] theorem fo_194_0 : foff Try.prog 194 0 = some (0, 1, false) := by kernel_rfl
@[simp] theorem fo_194_1 : foff Try.prog 194 1 = some (1, 1, false) := by kernel_rfl
@[simp] theorem fo_194_2 : foff Try.prog 194 2 = some (2, 1, false) := by kernel_rfl
@[simp] theorem fo_206_0 : foff Try.prog 206 0 = some (0, 1, false) := by kernel_rfl
@[simp] theorem fo_206_1 : foff Try.prog 206 1 = some (1, 1, false) := by kernel_rfl
@[simp] theorem fo_206_2 : foff Try.prog 206 2 = some (2, 1, false) := by kernel_rfl
@[simp] theorem fo_219_0 : foff Try.prog 219 0 = some (0, 1, false) := by kernel_rfl
@[simp] theorem fo_219_1 : foff Try.prog 219 1 = some (1, 1, false) := by kernel_rfl
@[simp] theorem fo_256_0 : foff Try.prog 256 0 = some (0, 1, false) := by kernel_rfl
@[simp] theorem fo_256_1 : foff Try.prog 256 1 = some (1, 1, false) := by kernel_rfl
@[simp] theorem un_2 : Program.underlying Try.prog 2 = some (.int .i64) := by kernel_rfl
@[simp] theorem un_3 : Program.underlying Try.prog 3 = some (.int .i64) := by kernel_rfl
@[simp] theorem un_4 : Program.underlying Try.prog 4 = some .bool := by kernel_rfl
@[simp] theorem un_5 : Program.underlying Try.prog 5 = some (.int .u8) := by kernel_rfl
@[simp] theorem tk_22 : tkind Try.prog 22 = .sl 1 := by kernel_rfl
@[simp] theorem tk_23 : tkind Try.prog 23 = .sl 4 := by kernel_rfl
@[simp] theorem tk_24 : tkind Try.prog 24 = .sl 7 := by kernel_rfl
@[simp] theorem tk_25 : tkind Try.prog 25 = .sl 3 := by kernel_rfl
@[simp] theorem tk_29 : tkind Try.prog 29 = .sl 7 := by kernel_rfl
@[simp] theorem tk_33 : tkind Try.prog 33 = .sl 4 := by kernel_rfl
@[simp] theorem tk_34 : tkind Try.prog 34 = .sl 7 := by kernel_rfl
@[simp] theorem tk_35 : tkind Try.prog 35 = .sl 3 := by kernel_rfl
@[simp] theorem tk_57 : tkind Try.prog 57 = .sl 3 := by kernel_rfl
@[simp] theorem tk_59 : tkind Try.prog 59 = .sl 1 := by kernel_rfl
@[simp] theorem tk_65 : tkind Try.prog 65 = .sl 3 := by kernel_rfl
@[simp] theorem tk_79 : tkind Try.prog 79 = .sl 2 := by kernel_rfl
@[simp] theorem tk_85 : tkind Try.prog 85 = .sl 1 := by kernel_rfl
@[simp] theorem tk_126 : tkind Try.prog 126 = .sl 3 := by kernel_rfl
@[simp] theorem tk_135 : tkind Try.prog 135 = .sl 1 := by kernel_rfl
@[simp] theorem tk_149 : tkind Try.prog 149 = .sl 1 := by kernel_rfl
@[simp] theorem tk_198 : tkind Try.prog 198 = .sl 1 := by kernel_rfl
@[simp] theorem tk_207 : tkind Try.prog 207 = .sl 3 := by kernel_rfl
@[simp] theorem os_31 : okStruct Try.prog 31 = true := by kernel_rfl
@[simp] theorem os_37 : okStruct Try.prog 37 = true := by kernel_rfl
@[simp] theorem os_48 : okStruct Try.prog 48 = true := by kernel_rfl
@[simp] theorem os_61 : okStruct Try.prog 61 = true := by kernel_rfl
@[simp] theorem os_63 : okStruct Try.prog 63 = true := by kernel_rfl
@[simp] theorem os_73 : okStruct Try.prog 73 = true := by kernel_rfl
@[simp] theorem os_81 : okStruct Try.prog 81 = true := by kernel_rfl
@[simp] theorem os_94 : okStruct Try.prog 94 = true := by kernel_rfl
@[simp] theorem os_96 : okStruct Try.prog 96 = true := by kernel_rfl
@[simp] theorem os_98 : okStruct Try.prog 98 = true := by kernel_rfl
@[simp] theorem os_100 : okStruct Try.prog 100 = true := by kernel_rfl
@[simp] theorem os_102 : okStruct Try.prog 102 = true := by kernel_rfl
@[simp] theorem os_125 : okStruct Try.prog 125 = true := by kernel_rfl
@[simp] theorem os_138 : okStruct Try.prog 138 = true := by kernel_rfl
@[simp] theorem os_147 : okStruct Try.prog 147 = true := by kernel_rfl
@[simp] theorem os_169 : okStruct Try.prog 169 = true := by kernel_rfl
@[simp] theorem os_181 : okStruct Try.prog 181 = true := by kernel_rfl
@[simp] theorem os_206 : okStruct Try.prog 206 = true := by kernel_rfl
@[simp] theorem os_219 : okStruct Try.prog 219 = true := by kernel_rfl
end Cal
