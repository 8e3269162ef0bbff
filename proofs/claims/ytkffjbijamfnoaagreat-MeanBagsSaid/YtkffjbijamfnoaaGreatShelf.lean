/-
  DERIVED: THE SHELF's CONTRACTS AT THIS DUMP, IN PLAIN WORDS (tools/lay-plain.mjs out of 'YtkffjbijamfnoaaGreatShelf.lean', which tools/lay-shelf.mjs wrote): THE SAME DECLARATIONS UNDER THE SAME NAMES: 'import', 'namespace', 'open', 'def', 'theorem' AND NOTHING ELSE: no command of the shelf's: FOR A HAND-IN. Each laying: the table of numbers ('.._ren') and one theorem, a field a fact of the dump's own or the kernel's comparison; each contract: ONE APPLICATION.
-/
import Derived.Shelf.SlSortCmp.WholeK
import Derived.Shelf.SlGeneric
import Derived.Ground.SlsfProg
import Derived.Test.YtkffjbijamfnoaaGreatProg
namespace Go.Proofs
open Go.Shelf
def Tryz.sortR_ren : Go.Shelf.Ren := ⟨fun | 6 => 97 | 15 => 141 | 14 => 140 | 28 => 183 | 29 => 184 | 20 => 175 | 21 => 176 | 22 => 177 | 23 => 178 | 24 => 179 | 25 => 180 | 26 => 181 | 27 => 182 | 46 => 206 | 47 => 207 | 48 => 208 | 49 => 209 | 50 => 210 | 57 => 231 | n => n, fun | 22 => 59 | 24 => 70 | 25 => 175 | 3 => 3 | 39 => 221 | 0 => 0 | 53 => 262 | 55 => 51 | 4 => 4 | 46 => 255 | 45 => 254 | 50 => 259 | 5 => 5 | 9 => 9 | 66 => 288 | 70 => 292 | 76 => 306 | 77 => 294 | n => n, fun | n => n⟩
theorem Tryz.sortR : Go.Proofs.SlLaysF0.n6 Tryz.prog Tryz.sortR_ren := {
  mixed := by kernel_rfl
  f6 := ⟨Tryz.f97.name, by decide, Tryz.func97.trans (congrArg some (by kernel_rfl))⟩
  f14 := ⟨Tryz.f140.name, by decide, Tryz.func140.trans (congrArg some (by kernel_rfl))⟩
  f15 := Tryz.func141.trans (congrArg some (by kernel_rfl))
  f20 := ⟨Tryz.f175.name, by decide, Tryz.func175.trans (congrArg some (by kernel_rfl))⟩
  f21 := ⟨Tryz.f176.name, by decide, Tryz.func176.trans (congrArg some (by kernel_rfl))⟩
  f22 := ⟨Tryz.f177.name, by decide, Tryz.func177.trans (congrArg some (by kernel_rfl))⟩
  f23 := ⟨Tryz.f178.name, by decide, Tryz.func178.trans (congrArg some (by kernel_rfl))⟩
  f24 := ⟨Tryz.f179.name, by decide, Tryz.func179.trans (congrArg some (by kernel_rfl))⟩
  f25 := ⟨Tryz.f180.name, by decide, Tryz.func180.trans (congrArg some (by kernel_rfl))⟩
  f26 := ⟨Tryz.f181.name, by decide, Tryz.func181.trans (congrArg some (by kernel_rfl))⟩
  f27 := ⟨Tryz.f182.name, by decide, Tryz.func182.trans (congrArg some (by kernel_rfl))⟩
  f28 := Tryz.func183.trans (congrArg some (by kernel_rfl))
  f29 := Tryz.func184.trans (congrArg some (by kernel_rfl))
  f46 := ⟨Tryz.f206.name, by decide, Tryz.func206.trans (congrArg some (by kernel_rfl))⟩
  f47 := Tryz.func207.trans (congrArg some (by kernel_rfl))
  f48 := Tryz.func208.trans (congrArg some (by kernel_rfl))
  f49 := ⟨Tryz.f209.name, by decide, Tryz.func209.trans (congrArg some (by kernel_rfl))⟩
  f50 := ⟨Tryz.f210.name, by decide, Tryz.func210.trans (congrArg some (by kernel_rfl))⟩
  f57 := ⟨Tryz.f231.name, by decide, Tryz.func231.trans (congrArg some (by kernel_rfl))⟩
  t0 := Tryz.underlying0
  a0 := Tryz.isAgg0
  z0 := Tryz.sizeOf0
  v0 := Tryz.zeroValue0
  t3 := Tryz.underlying3
  a3 := Tryz.isAgg3
  z3 := Tryz.sizeOf3
  v3 := Tryz.zeroValue3
  t4 := Tryz.underlying4
  a4 := Tryz.isAgg4
  z4 := Tryz.sizeOf4
  v4 := Tryz.zeroValue4
  t5 := Tryz.underlying5
  a5 := Tryz.isAgg5
  z5 := Tryz.sizeOf5
  v5 := Tryz.zeroValue5
  t9 := Tryz.underlying9
  a9 := Tryz.isAgg9
  z9 := Tryz.sizeOf9
  v9 := Tryz.zeroValue9
  t22 := Tryz.underlying59
  a22 := Tryz.isAgg59
  z22 := Tryz.sizeOf59
  v22 := Tryz.zeroValue59
  t25 := Tryz.underlying175
  a25 := Tryz.isAgg175
  z25 := Tryz.sizeOf175
  v25 := Tryz.zeroValue175
  t39 := Tryz.underlying221
  a39 := Tryz.isAgg221
  z39 := Tryz.sizeOf221
  v39 := Tryz.zeroValue221
  t45 := Tryz.underlying254
  a45 := Tryz.isAgg254
  z45 := Tryz.sizeOf254
  v45 := Tryz.zeroValue254
  t46 := Tryz.underlying255
  a46 := Tryz.isAgg255
  z46 := Tryz.sizeOf255
  v46 := Tryz.zeroValue255
  t50 := Tryz.underlying259
  a50 := Tryz.isAgg259
  z50 := Tryz.sizeOf259
  v50 := Tryz.zeroValue259
  t53 := Tryz.underlying262
  a53 := Tryz.isAgg262
  z53 := Tryz.sizeOf262
  v53 := Tryz.zeroValue262
  t55 := Tryz.underlying51
  a55 := Tryz.isAgg51
  z55 := Tryz.sizeOf51
  v55 := Tryz.zeroValue51
  t66 := Tryz.underlying288
  a66 := Tryz.isAgg288
  z66 := Tryz.sizeOf288
  v66 := Tryz.zeroValue288
  t70 := Tryz.underlying292
  a70 := Tryz.isAgg292
  z70 := Tryz.sizeOf292
  v70 := Tryz.zeroValue292
  t76 := Tryz.underlying306
  a76 := Tryz.isAgg306
  z76 := Tryz.sizeOf306
  v76 := Tryz.zeroValue306
  t77 := Tryz.underlying294
  a77 := Tryz.isAgg294
  z77 := Tryz.sizeOf294
  v77 := Tryz.zeroValue294 }
end Go.Proofs
