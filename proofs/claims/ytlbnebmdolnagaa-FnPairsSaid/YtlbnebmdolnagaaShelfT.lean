/-
  DERIVED: THE SHELF's CONTRACTS AT THIS DUMP, IN PLAIN WORDS (tools/lay-plain.mjs out of 'TryShelfT.lean', which tools/lay-shelf.mjs wrote): THE SAME DECLARATIONS UNDER THE SAME NAMES: 'import', 'namespace', 'open', 'def', 'theorem' AND NOTHING ELSE: no command of the shelf's: FOR A HAND-IN. Each laying: the table of numbers ('.._ren') and one theorem, a field a fact of the dump's own or the kernel's comparison; each contract: ONE APPLICATION.
-/
import Derived.Shelf.SlGeneric
import Derived.Sort.EveryDepth
import Derived.Lib.SlicesCompact
import Derived.Shelf.SortM.AssemblyIn
import Derived.Ground.SlgmProg
import Derived.Test.YtlbnebmdolnagaaProg
namespace Go.Proofs
open Go.Shelf
def Try.sort64_ren : Go.Shelf.Ren := ⟨fun | 5 => 81 | 8 => 124 | 7 => 123 | 19 => 153 | 20 => 154 | 10 => 144 | 11 => 145 | 12 => 146 | 13 => 147 | 14 => 148 | 15 => 149 | 16 => 150 | 17 => 151 | 18 => 152 | 30 => 173 | 31 => 174 | 32 => 175 | 33 => 176 | 34 => 177 | 35 => 162 | 40 => 183 | n => n, fun | 23 => 25 | 25 => 2 | 3 => 3 | 32 => 53 | 22 => 25 | 0 => 0 | 44 => 169 | 46 => 128 | 4 => 4 | 36 => 162 | 35 => 161 | 41 => 166 | 5 => 5 | 9 => 9 | 53 => 183 | 57 => 187 | 63 => 192 | 64 => 193 | n => n, fun | n => n⟩
theorem Try.sort64 : Go.Proofs.SlLaysM.n5 Try.prog Try.sort64_ren := {
  mixed := by kernel_rfl
  f5 := ⟨Try.f81.name, by decide, Try.func81.trans (congrArg some (by kernel_rfl))⟩
  f7 := ⟨Try.f123.name, by decide, Try.func123.trans (congrArg some (by kernel_rfl))⟩
  f8 := Try.func124.trans (congrArg some (by kernel_rfl))
  f10 := ⟨Try.f144.name, by decide, Try.func144.trans (congrArg some (by kernel_rfl))⟩
  f11 := ⟨Try.f145.name, by decide, Try.func145.trans (congrArg some (by kernel_rfl))⟩
  f12 := ⟨Try.f146.name, by decide, Try.func146.trans (congrArg some (by kernel_rfl))⟩
  f13 := ⟨Try.f147.name, by decide, Try.func147.trans (congrArg some (by kernel_rfl))⟩
  f14 := ⟨Try.f148.name, by decide, Try.func148.trans (congrArg some (by kernel_rfl))⟩
  f15 := ⟨Try.f149.name, by decide, Try.func149.trans (congrArg some (by kernel_rfl))⟩
  f16 := ⟨Try.f150.name, by decide, Try.func150.trans (congrArg some (by kernel_rfl))⟩
  f17 := ⟨Try.f151.name, by decide, Try.func151.trans (congrArg some (by kernel_rfl))⟩
  f18 := ⟨Try.f152.name, by decide, Try.func152.trans (congrArg some (by kernel_rfl))⟩
  f19 := Try.func153.trans (congrArg some (by kernel_rfl))
  f20 := Try.func154.trans (congrArg some (by kernel_rfl))
  f30 := ⟨Try.f173.name, by decide, Try.func173.trans (congrArg some (by kernel_rfl))⟩
  f31 := Try.func174.trans (congrArg some (by kernel_rfl))
  f32 := Try.func175.trans (congrArg some (by kernel_rfl))
  f33 := ⟨Try.f176.name, by decide, Try.func176.trans (congrArg some (by kernel_rfl))⟩
  f34 := ⟨Try.f177.name, by decide, Try.func177.trans (congrArg some (by kernel_rfl))⟩
  f35 := ⟨Try.f162.name, by decide, Try.func162.trans (congrArg some (by kernel_rfl))⟩
  f40 := ⟨Try.f183.name, by decide, Try.func183.trans (congrArg some (by kernel_rfl))⟩
  t0 := Try.underlying0
  a0 := Try.isAgg0
  z0 := Try.sizeOf0
  v0 := Try.zeroValue0
  t3 := Try.underlying3
  a3 := Try.isAgg3
  z3 := Try.sizeOf3
  v3 := Try.zeroValue3
  t4 := Try.underlying4
  a4 := Try.isAgg4
  z4 := Try.sizeOf4
  v4 := Try.zeroValue4
  t5 := Try.underlying5
  a5 := Try.isAgg5
  z5 := Try.sizeOf5
  v5 := Try.zeroValue5
  t9 := Try.underlying9
  a9 := Try.isAgg9
  z9 := Try.sizeOf9
  v9 := Try.zeroValue9
  t22 := Try.underlying25
  a22 := Try.isAgg25
  z22 := Try.sizeOf25
  v22 := Try.zeroValue25
  t23 := Try.underlying25
  a23 := Try.isAgg25
  z23 := Try.sizeOf25
  v23 := Try.zeroValue25
  t25 := Try.underlying2
  a25 := Try.isAgg2
  z25 := Try.sizeOf2
  v25 := Try.zeroValue2
  t32 := Try.underlying53
  a32 := Try.isAgg53
  z32 := Try.sizeOf53
  v32 := Try.zeroValue53
  t35 := Try.underlying161
  a35 := Try.isAgg161
  z35 := Try.sizeOf161
  v35 := Try.zeroValue161
  t36 := Try.underlying162
  a36 := Try.isAgg162
  z36 := Try.sizeOf162
  v36 := Try.zeroValue162
  t41 := Try.underlying166
  a41 := Try.isAgg166
  z41 := Try.sizeOf166
  v41 := Try.zeroValue166
  t44 := Try.underlying169
  a44 := Try.isAgg169
  z44 := Try.sizeOf169
  v44 := Try.zeroValue169
  t46 := Try.underlying128
  a46 := Try.isAgg128
  z46 := Try.sizeOf128
  v46 := Try.zeroValue128
  t53 := Try.underlying183
  a53 := Try.isAgg183
  z53 := Try.sizeOf183
  v53 := Try.zeroValue183
  t57 := Try.underlying187
  a57 := Try.isAgg187
  z57 := Try.sizeOf187
  v57 := Try.zeroValue187
  t63 := Try.underlying192
  a63 := Try.isAgg192
  z63 := Try.sizeOf192
  v63 := Try.zeroValue192
  t64 := Try.underlying193
  a64 := Try.isAgg193
  z64 := Try.sizeOf193
  v64 := Try.zeroValue193 }
end Go.Proofs
