/- A part of the proof: a calculus of our own over the model's code, and contracts of the program's functions. -/
import Derived.Shelf.SortM.Plain
import Derived.Shelf.SortM.SortNone
import Derived.Test.YthiflnpbamlinaaProg
/-
  DERIVED: THE SHELF's CONTRACTS AT THIS DUMP, IN PLAIN WORDS (tools/lay-plain.mjs out of 'TrySortShelf.lean', which tools/lay-shelf.mjs wrote): THE SAME DECLARATIONS UNDER THE SAME NAMES: 'import', 'namespace', 'open', 'def', 'theorem' AND NOTHING ELSE: no command of the shelf's: FOR A HAND-IN. Each laying: the table of numbers ('.._ren') and one theorem, a field a fact of the dump's own or the kernel's comparison; each contract: ONE APPLICATION.
-/
namespace Go.Proofs
open Go.Shelf
def Try.laysSort_ren : Go.Shelf.Ren := ⟨fun | 5 => 100 | 8 => 155 | 7 => 154 | 19 => 181 | 20 => 182 | 10 => 172 | 11 => 173 | 12 => 174 | 13 => 175 | 14 => 176 | 15 => 177 | 16 => 178 | 17 => 179 | 18 => 180 | 30 => 194 | 31 => 195 | 32 => 196 | 33 => 197 | 34 => 198 | 35 => 199 | 40 => 206 | n => n, fun | 23 => 22 | 25 => 2 | 3 => 3 | 32 => 216 | 22 => 22 | 0 => 0 | 44 => 249 | 46 => 251 | 4 => 4 | 36 => 242 | 35 => 241 | 41 => 246 | 5 => 5 | 9 => 9 | 53 => 264 | 57 => 268 | 63 => 275 | 64 => 276 | n => n, fun | n => n⟩
theorem Try.laysSort : Go.Proofs.SlLaysM.n5 Try.prog Try.laysSort_ren := {
  mixed := by kernel_rfl
  f5 := ⟨Try.f100.name, by decide, Try.func100.trans (congrArg some (by kernel_rfl))⟩
  f7 := ⟨Try.f154.name, by decide, Try.func154.trans (congrArg some (by kernel_rfl))⟩
  f8 := Try.func155.trans (congrArg some (by kernel_rfl))
  f10 := ⟨Try.f172.name, by decide, Try.func172.trans (congrArg some (by kernel_rfl))⟩
  f11 := ⟨Try.f173.name, by decide, Try.func173.trans (congrArg some (by kernel_rfl))⟩
  f12 := ⟨Try.f174.name, by decide, Try.func174.trans (congrArg some (by kernel_rfl))⟩
  f13 := ⟨Try.f175.name, by decide, Try.func175.trans (congrArg some (by kernel_rfl))⟩
  f14 := ⟨Try.f176.name, by decide, Try.func176.trans (congrArg some (by kernel_rfl))⟩
  f15 := ⟨Try.f177.name, by decide, Try.func177.trans (congrArg some (by kernel_rfl))⟩
  f16 := ⟨Try.f178.name, by decide, Try.func178.trans (congrArg some (by kernel_rfl))⟩
  f17 := ⟨Try.f179.name, by decide, Try.func179.trans (congrArg some (by kernel_rfl))⟩
  f18 := ⟨Try.f180.name, by decide, Try.func180.trans (congrArg some (by kernel_rfl))⟩
  f19 := Try.func181.trans (congrArg some (by kernel_rfl))
  f20 := Try.func182.trans (congrArg some (by kernel_rfl))
  f30 := ⟨Try.f194.name, by decide, Try.func194.trans (congrArg some (by kernel_rfl))⟩
  f31 := Try.func195.trans (congrArg some (by kernel_rfl))
  f32 := Try.func196.trans (congrArg some (by kernel_rfl))
  f33 := ⟨Try.f197.name, by decide, Try.func197.trans (congrArg some (by kernel_rfl))⟩
  f34 := ⟨Try.f198.name, by decide, Try.func198.trans (congrArg some (by kernel_rfl))⟩
  f35 := ⟨Try.f199.name, by decide, Try.func199.trans (congrArg some (by kernel_rfl))⟩
  f40 := ⟨Try.f206.name, by decide, Try.func206.trans (congrArg some (by kernel_rfl))⟩
  t0 := Try.underlying0
  a0 := Try.isAgg0
  z0 := Try.sizeOf0
  v0 := Try.zeroValue0
  t3 := Try.underlying3
  a3 := Try.isAgg3
  z3 := Try.sizeOf3
  v3 := Try.zeroValue3
  t4 := Try.underlying4
  a4 := Try.isAgg4
  z4 := Try.sizeOf4
  v4 := Try.zeroValue4
  t5 := Try.underlying5
  a5 := Try.isAgg5
  z5 := Try.sizeOf5
  v5 := Try.zeroValue5
  t9 := Try.underlying9
  a9 := Try.isAgg9
  z9 := Try.sizeOf9
  v9 := Try.zeroValue9
  t22 := Try.underlying22
  a22 := Try.isAgg22
  z22 := Try.sizeOf22
  v22 := Try.zeroValue22
  t23 := Try.underlying22
  a23 := Try.isAgg22
  z23 := Try.sizeOf22
  v23 := Try.zeroValue22
  t25 := Try.underlying2
  a25 := Try.isAgg2
  z25 := Try.sizeOf2
  v25 := Try.zeroValue2
  t32 := Try.underlying216
  a32 := Try.isAgg216
  z32 := Try.sizeOf216
  v32 := Try.zeroValue216
  t35 := Try.underlying241
  a35 := Try.isAgg241
  z35 := Try.sizeOf241
  v35 := Try.zeroValue241
  t36 := Try.underlying242
  a36 := Try.isAgg242
  z36 := Try.sizeOf242
  v36 := Try.zeroValue242
  t41 := Try.underlying246
  a41 := Try.isAgg246
  z41 := Try.sizeOf246
  v41 := Try.zeroValue246
  t44 := Try.underlying249
  a44 := Try.isAgg249
  z44 := Try.sizeOf249
  v44 := Try.zeroValue249
  t46 := Try.underlying251
  a46 := Try.isAgg251
  z46 := Try.sizeOf251
  v46 := Try.zeroValue251
  t53 := Try.underlying264
  a53 := Try.isAgg264
  z53 := Try.sizeOf264
  v53 := Try.zeroValue264
  t57 := Try.underlying268
  a57 := Try.isAgg268
  z57 := Try.sizeOf268
  v57 := Try.zeroValue268
  t63 := Try.underlying275
  a63 := Try.isAgg275
  z63 := Try.sizeOf275
  v63 := Try.zeroValue275
  t64 := Try.underlying276
  a64 := Try.isAgg276
  z64 := Try.sizeOf276
  v64 := Try.zeroValue276 }
end Go.Proofs
