/-
  DERIVED: THE SHELF's CONTRACTS AT THIS DUMP, IN PLAIN WORDS (tools/lay-plain.mjs out of 'YtljojgpjgjfddaaShelfD.lean', which tools/lay-shelf.mjs wrote): THE SAME DECLARATIONS UNDER THE SAME NAMES: 'import', 'namespace', 'open', 'def', 'theorem' AND NOTHING ELSE: no command of the shelf's: FOR A HAND-IN. Each laying: the table of numbers ('.._ren') and one theorem, a field a fact of the dump's own or the kernel's comparison; each contract: ONE APPLICATION.
-/
import Derived.Shelf.SlSortCmp.WholeK
import Derived.Ground.SlsfProg
import Derived.Test.YtljojgpjgjfddaaProg
namespace Go.Proofs
open Go.Shelf
def Try.sortD_ren : Go.Shelf.Ren := ⟨fun | 6 => 73 | 15 => 69 | 14 => 120 | 28 => 115 | 29 => 116 | 20 => 91 | 21 => 141 | 22 => 142 | 23 => 143 | 24 => 144 | 25 => 145 | 26 => 146 | 27 => 147 | 46 => 153 | 47 => 133 | 48 => 134 | 49 => 154 | 50 => 155 | 57 => 156 | n => n, fun | 22 => 29 | 24 => 49 | 25 => 51 | 3 => 3 | 39 => 120 | 0 => 0 | 53 => 151 | 55 => 153 | 4 => 4 | 46 => 145 | 45 => 144 | 50 => 91 | 5 => 5 | 9 => 9 | 66 => 171 | 70 => 175 | 76 => 185 | 77 => 123 | n => n, fun | n => n⟩
theorem Try.sortD : Go.Proofs.SlLaysF0.n6 Try.prog Try.sortD_ren := {
  mixed := by kernel_rfl
  f6 := ⟨Try.f73.name, by decide, Try.func73.trans (congrArg some (by kernel_rfl))⟩
  f14 := ⟨Try.f120.name, by decide, Try.func120.trans (congrArg some (by kernel_rfl))⟩
  f15 := Try.func69.trans (congrArg some (by kernel_rfl))
  f20 := ⟨Try.f91.name, by decide, Try.func91.trans (congrArg some (by kernel_rfl))⟩
  f21 := ⟨Try.f141.name, by decide, Try.func141.trans (congrArg some (by kernel_rfl))⟩
  f22 := ⟨Try.f142.name, by decide, Try.func142.trans (congrArg some (by kernel_rfl))⟩
  f23 := ⟨Try.f143.name, by decide, Try.func143.trans (congrArg some (by kernel_rfl))⟩
  f24 := ⟨Try.f144.name, by decide, Try.func144.trans (congrArg some (by kernel_rfl))⟩
  f25 := ⟨Try.f145.name, by decide, Try.func145.trans (congrArg some (by kernel_rfl))⟩
  f26 := ⟨Try.f146.name, by decide, Try.func146.trans (congrArg some (by kernel_rfl))⟩
  f27 := ⟨Try.f147.name, by decide, Try.func147.trans (congrArg some (by kernel_rfl))⟩
  f28 := Try.func115.trans (congrArg some (by kernel_rfl))
  f29 := Try.func116.trans (congrArg some (by kernel_rfl))
  f46 := ⟨Try.f153.name, by decide, Try.func153.trans (congrArg some (by kernel_rfl))⟩
  f47 := Try.func133.trans (congrArg some (by kernel_rfl))
  f48 := Try.func134.trans (congrArg some (by kernel_rfl))
  f49 := ⟨Try.f154.name, by decide, Try.func154.trans (congrArg some (by kernel_rfl))⟩
  f50 := ⟨Try.f155.name, by decide, Try.func155.trans (congrArg some (by kernel_rfl))⟩
  f57 := ⟨Try.f156.name, by decide, Try.func156.trans (congrArg some (by kernel_rfl))⟩
  t0 := Try.underlying0
  a0 := Try.isAgg0
  z0 := Try.sizeOf0
  v0 := Try.zeroValue0
  t3 := Try.underlying3
  a3 := Try.isAgg3
  z3 := Try.sizeOf3
  v3 := Try.zeroValue3
  t4 := Try.underlying4
  a4 := Try.isAgg4
  z4 := Try.sizeOf4
  v4 := Try.zeroValue4
  t5 := Try.underlying5
  a5 := Try.isAgg5
  z5 := Try.sizeOf5
  v5 := Try.zeroValue5
  t9 := Try.underlying9
  a9 := Try.isAgg9
  z9 := Try.sizeOf9
  v9 := Try.zeroValue9
  t22 := Try.underlying29
  a22 := Try.isAgg29
  z22 := Try.sizeOf29
  v22 := Try.zeroValue29
  t25 := Try.underlying51
  a25 := Try.isAgg51
  z25 := Try.sizeOf51
  v25 := Try.zeroValue51
  t39 := Try.underlying120
  a39 := Try.isAgg120
  z39 := Try.sizeOf120
  v39 := Try.zeroValue120
  t45 := Try.underlying144
  a45 := Try.isAgg144
  z45 := Try.sizeOf144
  v45 := Try.zeroValue144
  t46 := Try.underlying145
  a46 := Try.isAgg145
  z46 := Try.sizeOf145
  v46 := Try.zeroValue145
  t50 := Try.underlying91
  a50 := Try.isAgg91
  z50 := Try.sizeOf91
  v50 := Try.zeroValue91
  t53 := Try.underlying151
  a53 := Try.isAgg151
  z53 := Try.sizeOf151
  v53 := Try.zeroValue151
  t55 := Try.underlying153
  a55 := Try.isAgg153
  z55 := Try.sizeOf153
  v55 := Try.zeroValue153
  t66 := Try.underlying171
  a66 := Try.isAgg171
  z66 := Try.sizeOf171
  v66 := Try.zeroValue171
  t70 := Try.underlying175
  a70 := Try.isAgg175
  z70 := Try.sizeOf175
  v70 := Try.zeroValue175
  t76 := Try.underlying185
  a76 := Try.isAgg185
  z76 := Try.sizeOf185
  v76 := Try.zeroValue185
  t77 := Try.underlying123
  a77 := Try.isAgg123
  z77 := Try.sizeOf123
  v77 := Try.zeroValue123 }
end Go.Proofs
