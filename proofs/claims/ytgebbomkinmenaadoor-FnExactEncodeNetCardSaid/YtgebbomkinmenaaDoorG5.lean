/- A part of the proof: a calculus of our own over the model's code, and contracts of the program's functions. -/
import Derived.Test.YtgebbomkinmenaaDoorProg
import Derived.KernelRfl
import Derived.Test.YtgebbomkinmenaaDoorG3
/- Facts on the types of this program (each computed by the kernel), for the calculus. Printed by our own facts.py. -/
namespace Cal
open Go Go.Proofs
@[simp] theorem ti_2 : tinf Tryd.prog 2 = some ⟨false, 1, 8, [.int .i64 0]⟩ := by kernel_rfl
@[simp] theorem ti_4 : tinf Tryd.prog 4 = some ⟨false, 1, 1, [.bool false]⟩ := by kernel_rfl
@[simp] theorem ti_5 : tinf Tryd.prog 5 = some ⟨false, 1, 1, [.int .u8 0]⟩ := by kernel_rfl
@[simp] theorem ti_9 : tinf Tryd.prog 9 = some ⟨false, 1, 16, [.string ⟨#[]⟩]⟩ := by kernel_rfl
@[simp] theorem ti_22 : tinf Tryd.prog 22 = some ⟨false, 1, 24, [.slice none 0 0]⟩ := by kernel_rfl
@[simp] theorem ti_23 : tinf Tryd.prog 23 = some ⟨false, 1, 24, [.slice none 0 0]⟩ := by kernel_rfl
@[simp] theorem ti_24 : tinf Tryd.prog 24 = some ⟨false, 1, 24, [.slice none 0 0]⟩ := by kernel_rfl
@[simp] theorem ti_25 : tinf Tryd.prog 25 = some ⟨false, 1, 24, [.slice none 0 0]⟩ := by kernel_rfl
@[simp] theorem ti_27 : tinf Tryd.prog 27 = some ⟨true, 5, 104, [.slice none 0 0, .slice none 0 0, .slice none 0 0, .slice none 0 0, .int .i64 0]⟩ := by kernel_rfl
@[simp] theorem ti_29 : tinf Tryd.prog 29 = some ⟨false, 1, 24, [.slice none 0 0]⟩ := by kernel_rfl
@[simp] theorem ti_31 : tinf Tryd.prog 31 = some ⟨false, 1, 24, [.slice none 0 0]⟩ := by kernel_rfl
@[simp] theorem ti_32 : tinf Tryd.prog 32 = some ⟨false, 1, 24, [.slice none 0 0]⟩ := by kernel_rfl
@[simp] theorem ti_33 : tinf Tryd.prog 33 = some ⟨false, 1, 24, [.slice none 0 0]⟩ := by kernel_rfl
@[simp] theorem ti_35 : tinf Tryd.prog 35 = some ⟨true, 5, 104, [.slice none 0 0, .slice none 0 0, .slice none 0 0, .slice none 0 0, .int .i64 0]⟩ := by kernel_rfl
@[simp] theorem ti_45 : tinf Tryd.prog 45 = some ⟨true, 7, 120, [.int .i64 0, .int .i64 0, .slice none 0 0, .slice none 0 0, .slice none 0 0, .slice none 0 0, .int .i64 0]⟩ := by kernel_rfl
@[simp] theorem ti_55 : tinf Tryd.prog 55 = some ⟨true, 4, 64, [.int .i64 0, .bool false, .slice none 0 0, .slice none 0 0]⟩ := by kernel_rfl
@[simp] theorem ti_58 : tinf Tryd.prog 58 = some ⟨true, 7, 72, [.int .i64 0, .bool false, .int .i64 0, .int .i64 0, .bool false, .int .i64 0, .slice none 0 0]⟩ := by kernel_rfl
@[simp] theorem ti_60 : tinf Tryd.prog 60 = some ⟨true, 3, 24, [.int .i64 0, .int .i64 0, .int .i64 0]⟩ := by kernel_rfl
@[simp] theorem ti_87 : tinf Tryd.prog 87 = some ⟨true, 3, 32, [.string ⟨#[]⟩, .int .i64 0, .int .i64 0]⟩ := by kernel_rfl
@[simp] theorem ti_89 : tinf Tryd.prog 89 = some ⟨true, 6, 88, [.int .i64 0, .string ⟨#[]⟩, .int .i64 0, .int .i64 0, .slice none 0 0, .slice none 0 0]⟩ := by kernel_rfl
@[simp] theorem ti_97 : tinf Tryd.prog 97 = some ⟨true, 4, 64, [.int .i64 0, .bool false, .slice none 0 0, .slice none 0 0]⟩ := by kernel_rfl
@[simp] theorem ti_99 : tinf Tryd.prog 99 = some ⟨true, 7, 72, [.int .i64 0, .bool false, .int .i64 0, .int .i64 0, .bool false, .int .i64 0, .slice none 0 0]⟩ := by kernel_rfl
@[simp] theorem ti_103 : tinf Tryd.prog 103 = some ⟨true, 3, 24, [.int .i64 0, .int .i64 0, .int .i64 0]⟩ := by kernel_rfl
@[simp] theorem ti_111 : tinf Tryd.prog 111 = some ⟨true, 4, 48, [.slice none 0 0, .int .i64 0, .int .i64 0, .int .i64 0]⟩ := by kernel_rfl
@[simp] theorem ti_126 : tinf Tryd.prog 126 = some ⟨true, 2, 16, [.nilFunc, .nilFunc]⟩ := by kernel_rfl
@[simp] theorem el_22 : elemOf Tryd.prog 22 = some (2, ⟨false, 1, 8, [.int .i64 0]⟩) := by kernel_rfl
@[simp] theorem el_23 : elemOf Tryd.prog 23 = some (97, ⟨true, 4, 64, [.int .i64 0, .bool false, .slice none 0 0, .slice none 0 0]⟩) := by kernel_rfl
@[simp] theorem el_24 : elemOf Tryd.prog 24 = some (99, ⟨true, 7, 72, [.int .i64 0, .bool false, .int .i64 0, .int .i64 0, .bool false, .int .i64 0, .slice none 0 0]⟩) := by kernel_rfl
@[simp] theorem el_25 : elemOf Tryd.prog 25 = some (103, ⟨true, 3, 24, [.int .i64 0, .int .i64 0, .int .i64 0]⟩) := by kernel_rfl
@[simp] theorem el_29 : elemOf Tryd.prog 29 = some (5, ⟨false, 1, 1, [.int .u8 0]⟩) := by kernel_rfl
@[simp] theorem el_31 : elemOf Tryd.prog 31 = some (55, ⟨true, 4, 64, [.int .i64 0, .bool false, .slice none 0 0, .slice none 0 0]⟩) := by kernel_rfl
@[simp] theorem el_32 : elemOf Tryd.prog 32 = some (58, ⟨true, 7, 72, [.int .i64 0, .bool false, .int .i64 0, .int .i64 0, .bool false, .int .i64 0, .slice none 0 0]⟩) := by kernel_rfl
@[simp] theorem el_33 : elemOf Tryd.prog 33 = some (60, ⟨true, 3, 24, [.int .i64 0, .int .i64 0, .int .i64 0]⟩) := by kernel_rfl
@[simp] theorem el_83 : elemOf Tryd.prog 83 = some (89, ⟨true, 6, 88, [.int .i64 0, .string ⟨#[]⟩, .int .i64 0, .int .i64 0, .slice none 0 0, .slice none 0 0]⟩) := by kernel_rfl
@[simp] theorem el_84 : elemOf Tryd.prog 84 = some (9, ⟨false, 1, 16, [.string ⟨#[]⟩]⟩) := by kernel_rfl
@[simp] theorem fo_27_0 : foff Tryd.prog 27 0 = some (0, 1, false) := by kernel_rfl
@[simp] theorem fo_27_1 : foff Tryd.prog 27 1 = some (1, 1, false) := by kernel_rfl
@[simp] theorem fo_27_2 : foff Tryd.prog 27 2 = some (2, 1, false) := by kernel_rfl
@[simp] theorem fo_27_3 : foff Tryd.prog 27 3 = some (3, 1, false) := by kernel_rfl
@[simp] theorem fo_27_4 : foff Tryd.prog 27 4 = some (4, 1, false) := by kernel_rfl
@[simp] theorem fo_35_0 : foff Tryd.prog 35 0 = some (0, 1, false) := by kernel_rfl
@[simp] theorem fo_35_1 : foff Tryd.prog 35 1 = some (1, 1, false) := by kernel_rfl
@[simp] theorem fo_35_2 : foff Tryd.prog 35 2 = some (2, 1, false) := by kernel_rfl
@[simp] theorem fo_35_3 : foff Tryd.prog 35 3 = some (3, 1, false) := by kernel_rfl
@[simp] theorem fo_35_4 : foff Tryd.prog 35 4 = some (4, 1, false) := by kernel_rfl
@[simp] theorem fo_45_0 : foff Tryd.prog 45 0 = some (0, 1, false) := by kernel_rfl
@[simp] theorem fo_45_1 : foff Tryd.prog 45 1 = some (1, 1, false) := by kernel_rfl
@[simp] theorem fo_45_2 : foff Tryd.prog 45 2 = some (2, 5, true) := by kernel_rfl
@[simp] theorem fo_55_0 : foff Tryd.prog 55 0 = some (0, 1, false) := by kernel_rfl
@[simp] theorem fo_55_1 : foff Tryd.prog 55 1 = some (1, 1, false) := by kernel_rfl
@[simp] theorem fo_55_2 : foff Tryd.prog 55 2 = some (2, 1, false) := by kernel_rfl
@[simp] theorem fo_55_3 : foff Tryd.prog 55 3 = some (3, 1, false) := by kernel_rfl
@[simp] theorem fo_58_0 : foff Tryd.prog 58 0 = some (0, 1, false) := by kernel_rfl
@[simp] theorem fo_58_1 : foff Tryd.prog 58 1 = some (1, 1, false) := by kernel_rfl
@[simp] theorem fo_58_2 : foff Tryd.prog 58 2 = some (2, 1, false) := by kernel_rfl
@[simp] theorem fo_58_3 : foff Tryd.prog 58 3 = some (3, 1, false) := by kernel_rfl
@[simp] theorem fo_58_4 : foff Tryd.prog 58 4 = some (4, 1, false) := by kernel_rfl
@[simp] theorem fo_58_5 : foff Tryd.prog 58 5 = some (5, 1, false) := by kernel_rfl
@[simp] theorem fo_58_6 : foff Tryd.prog 58 6 = some (6, 1, false) := by kernel_rfl
@[simp] theorem fo_60_0 : foff Tryd.prog 60 0 = some (0, 1, false) := by kernel_rfl
@[simp] theorem fo_60_1 : foff Tryd.prog 60 1 = some (1, 1, false) := by kernel_rfl
@[simp] theorem fo_60_2 : foff Tryd.prog 60 2 = some (2, 1, false) := by kernel_rfl
@[simp] theorem fo_87_0 : foff Tryd.prog 87 0 = some (0, 1, false) := by kernel_rfl
@[simp] theorem fo_87_1 : foff Tryd.prog 87 1 = some (1, 1, false) := by kernel_rfl
@[simp] theorem fo_87_2 : foff Tryd.prog 87 2 = some (2, 1, false) := by kernel_rfl
@[simp] theorem fo_89_0 : foff Tryd.prog 89 0 = some (0, 1, false) := by kernel_rfl
@[simp] theorem fo_89_1 : foff Tryd.prog 89 1 = some (1, 3, true) := by kernel_rfl
@[simp] theorem fo_89_2 : foff Tryd.prog 89 2 = some (4, 1, false) := by kernel_rfl
@[simp] theorem fo_89_3 : foff Tryd.prog 89 3 = some (5, 1, false) := by kernel_rfl
@[simp] theorem fo_97_0 : foff Tryd.prog 97 0 = some (0, 1, false) := by kernel_rfl
@[simp] theorem fo_97_1 : foff Tryd.prog 97 1 = some (1, 1, false) := by kernel_rfl
@[simp] theorem fo_97_2 : foff Tryd.prog 97 2 = some (2, 1, false) := by kernel_rfl
@[simp] theorem fo_97_3 : foff Tryd.prog 97 3 = some (3, 1, false) := by kernel_rfl
@[simp] theorem fo_99_0 : foff Tryd.prog 99 0 = some (0, 1, false) := by kernel_rfl
@[simp] theorem fo_99_1 : foff Tryd.prog 99 1 = some (1, 1, false) := by kernel_rfl
@[simp] theorem fo_99_2 : foff Tryd.prog 99 2 = some (2, 1, false) := by kernel_rfl
@[simp] theorem fo_99_3 : foff Tryd.prog 99 3 = some (3, 1, false) := by kernel_rfl
@[simp] theorem fo_99_4 : foff Tryd.prog 99 4 = some (4, 1, false) := by kernel_rfl
@[simp] theorem fo_99_5 : foff Tryd.prog 99 5 = some (5, 1, false) := by kernel_rfl
@[simp] theorem fo_99_6 : foff Tryd.prog 99 6 = some (6, 1, false) := by kernel_rfl
@[simp] theorem fo_103_0 : foff Tryd.prog 103 0 = some (0, 1, false) := by kernel_rfl
@[simp] theorem fo_103_1 : foff Tryd.prog 103 1 = some (1, 1, false) := by kernel_rfl
@[simp] theorem fo_103_2 : foff Tryd.prog 103 2 = some (2, 1, false) := by kernel_rfl
@[simp] theorem fo_111_0 : foff Tryd.prog 111 0 = some (0, 1, false) := by kernel_rfl
@[simp] theorem fo_111_1 : foff Tryd.prog 111 1 = some (1, 1, false) := by kernel_rfl
@[simp] theorem fo_111_2 : foff Tryd.prog 111 2 = some (2, 1, false) := by kernel_rfl
@[simp] theorem fo_111_3 : foff Tryd.prog 111 3 = some (3, 1, false) := by kernel_rfl
@[simp] theorem fo_126_0 : foff Tryd.prog 126 0 = some (0, 1, false) := by kernel_rfl
@[simp] theorem fo_126_1 : foff Tryd.prog 126 1 = some (1, 1, false) := by kernel_rfl
@[simp] theorem un_2 : Program.underlying Tryd.prog 2 = some (.int .i64) := by kernel_rfl
@[simp] theorem un_3 : Program.underlying Tryd.prog 3 = some (.int .i64) := by kernel_rfl
@[simp] theorem un_4 : Program.underlying Tryd.prog 4 = some .bool := by kernel_rfl
@[simp] theorem un_5 : Program.underlying Tryd.prog 5 = some (.int .u8) := by kernel_rfl
@[simp] theorem un_9 : Program.underlying Tryd.prog 9 = some .string := by kernel_rfl
@[simp] theorem un_123 : Program.underlying Tryd.prog 123 = some (.int .u64) := by kernel_rfl
@[simp] theorem tk_9 : tkind Tryd.prog 9 = .str := by kernel_rfl
@[simp] theorem tk_22 : tkind Tryd.prog 22 = .sl 1 := by kernel_rfl
@[simp] theorem tk_23 : tkind Tryd.prog 23 = .sl 4 := by kernel_rfl
@[simp] theorem tk_24 : tkind Tryd.prog 24 = .sl 7 := by kernel_rfl
@[simp] theorem tk_25 : tkind Tryd.prog 25 = .sl 3 := by kernel_rfl
@[simp] theorem tk_29 : tkind Tryd.prog 29 = .sl 1 := by kernel_rfl
@[simp] theorem tk_31 : tkind Tryd.prog 31 = .sl 4 := by kernel_rfl
@[simp] theorem tk_32 : tkind Tryd.prog 32 = .sl 7 := by kernel_rfl
@[simp] theorem tk_33 : tkind Tryd.prog 33 = .sl 3 := by kernel_rfl
@[simp] theorem tk_83 : tkind Tryd.prog 83 = .sl 6 := by kernel_rfl
@[simp] theorem tk_84 : tkind Tryd.prog 84 = .sl 1 := by kernel_rfl
@[simp] theorem ck_2_5 : convK Tryd.prog 2 5 = some false := by kernel_rfl
@[simp] theorem ck_3_5 : convK Tryd.prog 3 5 = some false := by kernel_rfl
@[simp] theorem ck_3_123 : convK Tryd.prog 3 123 = some false := by kernel_rfl
@[simp] theorem ck_5_2 : convK Tryd.prog 5 2 = some false := by kernel_rfl
@[simp] theorem ck_9_29 : convK Tryd.prog 9 29 = some false := by kernel_rfl
@[simp] theorem ck_29_9 : convK Tryd.prog 29 9 = some true := by kernel_rfl
@[simp] theorem ck_29_29 : convK Tryd.prog 29 29 = some false := by kernel_rfl
@[simp] theorem os_35 : okStruct Tryd.prog 35 = true := by kernel_rfl
@[simp] theorem os_45 : okStruct Tryd.prog 45 = true := by kernel_rfl
@[simp] theorem os_55 : okStruct Tryd.prog 55 = true := by kernel_rfl
@[simp] theorem os_58 : okStruct Tryd.prog 58 = true := by kernel_rfl
@[simp] theorem os_60 : okStruct Tryd.prog 60 = true := by kernel_rfl
@[simp] theorem os_87 : okStruct Tryd.prog 87 = true := by kernel_rfl
@[simp] theorem os_89 : okStruct Tryd.prog 89 = true := by kernel_rfl
@[simp] theorem os_111 : okStruct Tryd.prog 111 = true := by kernel_rfl
@[simp] theorem os_126 : okStruct Tryd.prog 126 = true := by kernel_rfl
end Cal
