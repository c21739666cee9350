/-
  DERIVED: THE SHELF's CONTRACTS AT THIS DUMP, IN PLAIN WORDS (tools/lay-plain.mjs out of 'TryzSort.lean', which tools/lay-shelf.mjs wrote): THE SAME DECLARATIONS UNDER THE SAME NAMES: 'import', 'namespace', 'open', 'def', 'theorem' AND NOTHING ELSE: no command of the shelf's: FOR A HAND-IN. Each laying: the table of numbers ('.._ren') and one theorem, a field a fact of the dump's own or the kernel's comparison; each contract: ONE APPLICATION.
-/
import Derived.Shelf.SlGeneric
import Derived.Shelf.SlSortCmp.NoneTotal
import Derived.Ground.SlsfProg
import Derived.Test.YtngoaapgdfohjaaGreatDoorProg
namespace Go.Proofs
open Go.Shelf
def Tryz.sortVal_ren : Go.Shelf.Ren := ⟨fun | 6 => 121 | 15 => 157 | 14 => 156 | 28 => 202 | 29 => 203 | 20 => 194 | 21 => 195 | 22 => 196 | 23 => 197 | 24 => 198 | 25 => 199 | 26 => 200 | 27 => 201 | 46 => 220 | 47 => 221 | 48 => 222 | 49 => 223 | 50 => 224 | 57 => 231 | n => n, fun | 22 => 27 | 24 => 42 | 25 => 118 | 3 => 3 | 39 => 138 | 0 => 0 | 53 => 183 | 55 => 179 | 4 => 4 | 46 => 252 | 45 => 251 | 50 => 74 | 5 => 5 | 9 => 9 | 66 => 266 | 70 => 270 | 76 => 277 | 77 => 278 | n => n, fun | n => n⟩
theorem Tryz.sortVal : Go.Proofs.SlLaysF0.n6 Tryz.prog Tryz.sortVal_ren := {
  mixed := by kernel_rfl
  f6 := ⟨Tryz.f121.name, by decide, Tryz.func121.trans (congrArg some (by kernel_rfl))⟩
  f14 := ⟨Tryz.f156.name, by decide, Tryz.func156.trans (congrArg some (by kernel_rfl))⟩
  f15 := Tryz.func157.trans (congrArg some (by kernel_rfl))
  f20 := ⟨Tryz.f194.name, by decide, Tryz.func194.trans (congrArg some (by kernel_rfl))⟩
  f21 := ⟨Tryz.f195.name, by decide, Tryz.func195.trans (congrArg some (by kernel_rfl))⟩
  f22 := ⟨Tryz.f196.name, by decide, Tryz.func196.trans (congrArg some (by kernel_rfl))⟩
  f23 := ⟨Tryz.f197.name, by decide, Tryz.func197.trans (congrArg some (by kernel_rfl))⟩
  f24 := ⟨Tryz.f198.name, by decide, Tryz.func198.trans (congrArg some (by kernel_rfl))⟩
  f25 := ⟨Tryz.f199.name, by decide, Tryz.func199.trans (congrArg some (by kernel_rfl))⟩
  f26 := ⟨Tryz.f200.name, by decide, Tryz.func200.trans (congrArg some (by kernel_rfl))⟩
  f27 := ⟨Tryz.f201.name, by decide, Tryz.func201.trans (congrArg some (by kernel_rfl))⟩
  f28 := Tryz.func202.trans (congrArg some (by kernel_rfl))
  f29 := Tryz.func203.trans (congrArg some (by kernel_rfl))
  f46 := ⟨Tryz.f220.name, by decide, Tryz.func220.trans (congrArg some (by kernel_rfl))⟩
  f47 := Tryz.func221.trans (congrArg some (by kernel_rfl))
  f48 := Tryz.func222.trans (congrArg some (by kernel_rfl))
  f49 := ⟨Tryz.f223.name, by decide, Tryz.func223.trans (congrArg some (by kernel_rfl))⟩
  f50 := ⟨Tryz.f224.name, by decide, Tryz.func224.trans (congrArg some (by kernel_rfl))⟩
  f57 := ⟨Tryz.f231.name, by decide, Tryz.func231.trans (congrArg some (by kernel_rfl))⟩
  t0 := Tryz.underlying0
  a0 := Tryz.isAgg0
  z0 := Tryz.sizeOf0
  v0 := Tryz.zeroValue0
  t3 := Tryz.underlying3
  a3 := Tryz.isAgg3
  z3 := Tryz.sizeOf3
  v3 := Tryz.zeroValue3
  t4 := Tryz.underlying4
  a4 := Tryz.isAgg4
  z4 := Tryz.sizeOf4
  v4 := Tryz.zeroValue4
  t5 := Tryz.underlying5
  a5 := Tryz.isAgg5
  z5 := Tryz.sizeOf5
  v5 := Tryz.zeroValue5
  t9 := Tryz.underlying9
  a9 := Tryz.isAgg9
  z9 := Tryz.sizeOf9
  v9 := Tryz.zeroValue9
  t22 := Tryz.underlying27
  a22 := Tryz.isAgg27
  z22 := Tryz.sizeOf27
  v22 := Tryz.zeroValue27
  t25 := Tryz.underlying118
  a25 := Tryz.isAgg118
  z25 := Tryz.sizeOf118
  v25 := Tryz.zeroValue118
  t39 := Tryz.underlying138
  a39 := Tryz.isAgg138
  z39 := Tryz.sizeOf138
  v39 := Tryz.zeroValue138
  t45 := Tryz.underlying251
  a45 := Tryz.isAgg251
  z45 := Tryz.sizeOf251
  v45 := Tryz.zeroValue251
  t46 := Tryz.underlying252
  a46 := Tryz.isAgg252
  z46 := Tryz.sizeOf252
  v46 := Tryz.zeroValue252
  t50 := Tryz.underlying74
  a50 := Tryz.isAgg74
  z50 := Tryz.sizeOf74
  v50 := Tryz.zeroValue74
  t53 := Tryz.underlying183
  a53 := Tryz.isAgg183
  z53 := Tryz.sizeOf183
  v53 := Tryz.zeroValue183
  t55 := Tryz.underlying179
  a55 := Tryz.isAgg179
  z55 := Tryz.sizeOf179
  v55 := Tryz.zeroValue179
  t66 := Tryz.underlying266
  a66 := Tryz.isAgg266
  z66 := Tryz.sizeOf266
  v66 := Tryz.zeroValue266
  t70 := Tryz.underlying270
  a70 := Tryz.isAgg270
  z70 := Tryz.sizeOf270
  v70 := Tryz.zeroValue270
  t76 := Tryz.underlying277
  a76 := Tryz.isAgg277
  z76 := Tryz.sizeOf277
  v76 := Tryz.zeroValue277
  t77 := Tryz.underlying278
  a77 := Tryz.isAgg278
  z77 := Tryz.sizeOf278
  v77 := Tryz.zeroValue278 }
end Go.Proofs
