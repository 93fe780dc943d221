/-
  DERIVED: THE SHELF's CONTRACTS AT THIS DUMP, IN PLAIN WORDS (tools/lay-plain.mjs out of 'YtljojgpjgjfddaaGreatShelfD.lean', which tools/lay-shelf.mjs wrote): THE SAME DECLARATIONS UNDER THE SAME NAMES: 'import', 'namespace', 'open', 'def', 'theorem' AND NOTHING ELSE: no command of the shelf's: FOR A HAND-IN. Each laying: the table of numbers ('.._ren') and one theorem, a field a fact of the dump's own or the kernel's comparison; each contract: ONE APPLICATION.
-/
import Derived.Shelf.SlSortCmp.WholeK
import Derived.Ground.SlsfProg
import Derived.Test.YtljojgpjgjfddaaGreatProg
namespace Go.Proofs
open Go.Shelf
def Tryz.sortD_ren : Go.Shelf.Ren := ⟨fun | 6 => 53 | 15 => 106 | 14 => 105 | 28 => 136 | 29 => 137 | 20 => 128 | 21 => 129 | 22 => 130 | 23 => 131 | 24 => 132 | 25 => 133 | 26 => 134 | 27 => 135 | 46 => 152 | 47 => 153 | 48 => 154 | 49 => 155 | 50 => 156 | 57 => 169 | n => n, fun | 22 => 39 | 24 => 69 | 25 => 101 | 3 => 3 | 39 => 155 | 0 => 0 | 53 => 184 | 55 => 186 | 4 => 4 | 46 => 178 | 45 => 177 | 50 => 86 | 5 => 5 | 9 => 9 | 66 => 196 | 70 => 200 | 76 => 208 | 77 => 94 | n => n, fun | n => n⟩
theorem Tryz.sortD : Go.Proofs.SlLaysF0.n6 Tryz.prog Tryz.sortD_ren := {
  mixed := by kernel_rfl
  f6 := ⟨Tryz.f53.name, by decide, Tryz.func53.trans (congrArg some (by kernel_rfl))⟩
  f14 := ⟨Tryz.f105.name, by decide, Tryz.func105.trans (congrArg some (by kernel_rfl))⟩
  f15 := Tryz.func106.trans (congrArg some (by kernel_rfl))
  f20 := ⟨Tryz.f128.name, by decide, Tryz.func128.trans (congrArg some (by kernel_rfl))⟩
  f21 := ⟨Tryz.f129.name, by decide, Tryz.func129.trans (congrArg some (by kernel_rfl))⟩
  f22 := ⟨Tryz.f130.name, by decide, Tryz.func130.trans (congrArg some (by kernel_rfl))⟩
  f23 := ⟨Tryz.f131.name, by decide, Tryz.func131.trans (congrArg some (by kernel_rfl))⟩
  f24 := ⟨Tryz.f132.name, by decide, Tryz.func132.trans (congrArg some (by kernel_rfl))⟩
  f25 := ⟨Tryz.f133.name, by decide, Tryz.func133.trans (congrArg some (by kernel_rfl))⟩
  f26 := ⟨Tryz.f134.name, by decide, Tryz.func134.trans (congrArg some (by kernel_rfl))⟩
  f27 := ⟨Tryz.f135.name, by decide, Tryz.func135.trans (congrArg some (by kernel_rfl))⟩
  f28 := Tryz.func136.trans (congrArg some (by kernel_rfl))
  f29 := Tryz.func137.trans (congrArg some (by kernel_rfl))
  f46 := ⟨Tryz.f152.name, by decide, Tryz.func152.trans (congrArg some (by kernel_rfl))⟩
  f47 := Tryz.func153.trans (congrArg some (by kernel_rfl))
  f48 := Tryz.func154.trans (congrArg some (by kernel_rfl))
  f49 := ⟨Tryz.f155.name, by decide, Tryz.func155.trans (congrArg some (by kernel_rfl))⟩
  f50 := ⟨Tryz.f156.name, by decide, Tryz.func156.trans (congrArg some (by kernel_rfl))⟩
  f57 := ⟨Tryz.f169.name, by decide, Tryz.func169.trans (congrArg some (by kernel_rfl))⟩
  t0 := Tryz.underlying0
  a0 := Tryz.isAgg0
  z0 := Tryz.sizeOf0
  v0 := Tryz.zeroValue0
  t3 := Tryz.underlying3
  a3 := Tryz.isAgg3
  z3 := Tryz.sizeOf3
  v3 := Tryz.zeroValue3
  t4 := Tryz.underlying4
  a4 := Tryz.isAgg4
  z4 := Tryz.sizeOf4
  v4 := Tryz.zeroValue4
  t5 := Tryz.underlying5
  a5 := Tryz.isAgg5
  z5 := Tryz.sizeOf5
  v5 := Tryz.zeroValue5
  t9 := Tryz.underlying9
  a9 := Tryz.isAgg9
  z9 := Tryz.sizeOf9
  v9 := Tryz.zeroValue9
  t22 := Tryz.underlying39
  a22 := Tryz.isAgg39
  z22 := Tryz.sizeOf39
  v22 := Tryz.zeroValue39
  t25 := Tryz.underlying101
  a25 := Tryz.isAgg101
  z25 := Tryz.sizeOf101
  v25 := Tryz.zeroValue101
  t39 := Tryz.underlying155
  a39 := Tryz.isAgg155
  z39 := Tryz.sizeOf155
  v39 := Tryz.zeroValue155
  t45 := Tryz.underlying177
  a45 := Tryz.isAgg177
  z45 := Tryz.sizeOf177
  v45 := Tryz.zeroValue177
  t46 := Tryz.underlying178
  a46 := Tryz.isAgg178
  z46 := Tryz.sizeOf178
  v46 := Tryz.zeroValue178
  t50 := Tryz.underlying86
  a50 := Tryz.isAgg86
  z50 := Tryz.sizeOf86
  v50 := Tryz.zeroValue86
  t53 := Tryz.underlying184
  a53 := Tryz.isAgg184
  z53 := Tryz.sizeOf184
  v53 := Tryz.zeroValue184
  t55 := Tryz.underlying186
  a55 := Tryz.isAgg186
  z55 := Tryz.sizeOf186
  v55 := Tryz.zeroValue186
  t66 := Tryz.underlying196
  a66 := Tryz.isAgg196
  z66 := Tryz.sizeOf196
  v66 := Tryz.zeroValue196
  t70 := Tryz.underlying200
  a70 := Tryz.isAgg200
  z70 := Tryz.sizeOf200
  v70 := Tryz.zeroValue200
  t76 := Tryz.underlying208
  a76 := Tryz.isAgg208
  z76 := Tryz.sizeOf208
  v76 := Tryz.zeroValue208
  t77 := Tryz.underlying94
  a77 := Tryz.isAgg94
  z77 := Tryz.sizeOf94
  v77 := Tryz.zeroValue94 }
end Go.Proofs
