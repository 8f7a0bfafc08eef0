/-
  DERIVED: THE SHELF's CONTRACTS AT THIS DUMP, IN PLAIN WORDS (tools/lay-plain.mjs out of 'YticjkhkmbinmgaaSh.lean', which tools/lay-shelf.mjs wrote): THE SAME DECLARATIONS UNDER THE SAME NAMES: 'import', 'namespace', 'open', 'def', 'theorem' AND NOTHING ELSE: no command of the shelf's: FOR A HAND-IN. Each laying: the table of numbers ('.._ren') and one theorem, a field a fact of the dump's own or the kernel's comparison; each contract: ONE APPLICATION.
-/
import Derived.Shelf.SlGeneric
import Derived.Shelf.SlSortCmp.WholeK
import Derived.Shelf.SlicesQ.IndexFunc
import Derived.Ground.SlsfProg
import Derived.Ground.SlgfProg
import Derived.Test.YticjkhkmbinmgaaProg
namespace Go.Proofs
open Go.Shelf
def Try.laysH8_ren : Go.Shelf.Ren := ⟨fun | 8 => 22 | 6 => 30 | n => n, fun | 22 => 22 | 23 => 25 | 25 => 44 | 4 => 4 | 3 => 3 | 0 => 0 | n => n, fun | n => n⟩
theorem Try.laysH8 : Go.Proofs.SlLaysH0.n8 Try.prog Try.laysH8_ren := {
  mixed := by kernel_rfl
  f6 := ⟨Try.f30.name, by decide, Try.func30.trans (congrArg some (by kernel_rfl))⟩
  f8 := ⟨Try.f22.name, by decide, Try.func22.trans (congrArg some (by kernel_rfl))⟩
  t0 := Try.underlying0
  a0 := Try.isAgg0
  z0 := Try.sizeOf0
  v0 := Try.zeroValue0
  t3 := Try.underlying3
  a3 := Try.isAgg3
  z3 := Try.sizeOf3
  v3 := Try.zeroValue3
  t4 := Try.underlying4
  a4 := Try.isAgg4
  z4 := Try.sizeOf4
  v4 := Try.zeroValue4
  t22 := Try.underlying22
  a22 := Try.isAgg22
  z22 := Try.sizeOf22
  v22 := Try.zeroValue22
  t25 := Try.underlying44
  a25 := Try.isAgg44
  z25 := Try.sizeOf44
  v25 := Try.zeroValue44 }
def Try.laysF6_ren : Go.Shelf.Ren := ⟨fun | 6 => 25 | 15 => 32 | 14 => 31 | 28 => 41 | 29 => 42 | 20 => 33 | 21 => 34 | 22 => 35 | 23 => 36 | 24 => 37 | 25 => 38 | 26 => 39 | 27 => 40 | 46 => 43 | 47 => 44 | 48 => 45 | 49 => 46 | 50 => 47 | 57 => 48 | n => n, fun | 22 => 22 | 24 => 25 | 25 => 46 | 3 => 3 | 39 => 51 | 0 => 0 | 53 => 60 | 55 => 62 | 4 => 4 | 46 => 54 | 45 => 53 | 50 => 26 | 5 => 5 | 9 => 9 | 66 => 63 | 70 => 67 | 76 => 69 | 77 => 70 | n => n, fun | n => n⟩
theorem Try.laysF6 : Go.Proofs.SlLaysF0.n6 Try.prog Try.laysF6_ren := {
  mixed := by kernel_rfl
  f6 := ⟨Try.f25.name, by decide, Try.func25.trans (congrArg some (by kernel_rfl))⟩
  f14 := ⟨Try.f31.name, by decide, Try.func31.trans (congrArg some (by kernel_rfl))⟩
  f15 := Try.func32.trans (congrArg some (by kernel_rfl))
  f20 := ⟨Try.f33.name, by decide, Try.func33.trans (congrArg some (by kernel_rfl))⟩
  f21 := ⟨Try.f34.name, by decide, Try.func34.trans (congrArg some (by kernel_rfl))⟩
  f22 := ⟨Try.f35.name, by decide, Try.func35.trans (congrArg some (by kernel_rfl))⟩
  f23 := ⟨Try.f36.name, by decide, Try.func36.trans (congrArg some (by kernel_rfl))⟩
  f24 := ⟨Try.f37.name, by decide, Try.func37.trans (congrArg some (by kernel_rfl))⟩
  f25 := ⟨Try.f38.name, by decide, Try.func38.trans (congrArg some (by kernel_rfl))⟩
  f26 := ⟨Try.f39.name, by decide, Try.func39.trans (congrArg some (by kernel_rfl))⟩
  f27 := ⟨Try.f40.name, by decide, Try.func40.trans (congrArg some (by kernel_rfl))⟩
  f28 := Try.func41.trans (congrArg some (by kernel_rfl))
  f29 := Try.func42.trans (congrArg some (by kernel_rfl))
  f46 := ⟨Try.f43.name, by decide, Try.func43.trans (congrArg some (by kernel_rfl))⟩
  f47 := Try.func44.trans (congrArg some (by kernel_rfl))
  f48 := Try.func45.trans (congrArg some (by kernel_rfl))
  f49 := ⟨Try.f46.name, by decide, Try.func46.trans (congrArg some (by kernel_rfl))⟩
  f50 := ⟨Try.f47.name, by decide, Try.func47.trans (congrArg some (by kernel_rfl))⟩
  f57 := ⟨Try.f48.name, by decide, Try.func48.trans (congrArg some (by kernel_rfl))⟩
  t0 := Try.underlying0
  a0 := Try.isAgg0
  z0 := Try.sizeOf0
  v0 := Try.zeroValue0
  t3 := Try.underlying3
  a3 := Try.isAgg3
  z3 := Try.sizeOf3
  v3 := Try.zeroValue3
  t4 := Try.underlying4
  a4 := Try.isAgg4
  z4 := Try.sizeOf4
  v4 := Try.zeroValue4
  t5 := Try.underlying5
  a5 := Try.isAgg5
  z5 := Try.sizeOf5
  v5 := Try.zeroValue5
  t9 := Try.underlying9
  a9 := Try.isAgg9
  z9 := Try.sizeOf9
  v9 := Try.zeroValue9
  t22 := Try.underlying22
  a22 := Try.isAgg22
  z22 := Try.sizeOf22
  v22 := Try.zeroValue22
  t25 := Try.underlying46
  a25 := Try.isAgg46
  z25 := Try.sizeOf46
  v25 := Try.zeroValue46
  t39 := Try.underlying51
  a39 := Try.isAgg51
  z39 := Try.sizeOf51
  v39 := Try.zeroValue51
  t45 := Try.underlying53
  a45 := Try.isAgg53
  z45 := Try.sizeOf53
  v45 := Try.zeroValue53
  t46 := Try.underlying54
  a46 := Try.isAgg54
  z46 := Try.sizeOf54
  v46 := Try.zeroValue54
  t50 := Try.underlying26
  a50 := Try.isAgg26
  z50 := Try.sizeOf26
  v50 := Try.zeroValue26
  t53 := Try.underlying60
  a53 := Try.isAgg60
  z53 := Try.sizeOf60
  v53 := Try.zeroValue60
  t55 := Try.underlying62
  a55 := Try.isAgg62
  z55 := Try.sizeOf62
  v55 := Try.zeroValue62
  t66 := Try.underlying63
  a66 := Try.isAgg63
  z66 := Try.sizeOf63
  v66 := Try.zeroValue63
  t70 := Try.underlying67
  a70 := Try.isAgg67
  z70 := Try.sizeOf67
  v70 := Try.zeroValue67
  t76 := Try.underlying69
  a76 := Try.isAgg69
  z76 := Try.sizeOf69
  v76 := Try.zeroValue69
  t77 := Try.underlying70
  a77 := Try.isAgg70
  z77 := Try.sizeOf70
  v77 := Try.zeroValue70 }
end Go.Proofs
