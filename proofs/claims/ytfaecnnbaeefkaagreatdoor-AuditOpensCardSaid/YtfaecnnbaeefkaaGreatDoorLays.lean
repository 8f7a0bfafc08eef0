/-
  DERIVED: THE SHELF's CONTRACTS AT THIS DUMP, IN PLAIN WORDS (tools/lay-plain.mjs out of 'YtfaecnnbaeefkaaGreatDoorSh.lean', which tools/lay-shelf.mjs wrote): THE SAME DECLARATIONS UNDER THE SAME NAMES: 'import', 'namespace', 'open', 'def', 'theorem' AND NOTHING ELSE: no command of the shelf's: FOR A HAND-IN. Each laying: the table of numbers ('.._ren') and one theorem, a field a fact of the dump's own or the kernel's comparison; each contract: ONE APPLICATION.
-/
import Derived.Shelf.SlGeneric
import Derived.Shelf.SlIterI.Nil
import Derived.Shelf.SortM.Plain
import Derived.Shelf.SortM.SortNone
import Derived.Ground.GgzProg
import Derived.Ground.SlgmProg
import Derived.Test.YtfaecnnbaeefkaaGreatDoorProg
namespace Go.Proofs
open Go.Shelf
def Tryz.keysA_ren : Go.Shelf.Ren := ⟨fun | 7 => 208 | 10 => 277 | n => n, fun | 23 => 224 | 26 => 3 | 3 => 162 | 28 => 294 | 0 => 0 | 27 => 293 | 33 => 41 | 4 => 4 | n => n, fun | n => n⟩
theorem Tryz.keysA : Go.Proofs.SlLaysZI.n7 Tryz.prog Tryz.keysA_ren := {
  mixed := by kernel_rfl
  f7 := ⟨Tryz.f208.name, by decide, Tryz.func208.trans (congrArg some (by kernel_rfl))⟩
  f10 := ⟨Tryz.f277.name, by decide, Tryz.func277.trans (congrArg some (by kernel_rfl))⟩
  t0 := Tryz.underlying0
  a0 := Tryz.isAgg0
  z0 := Tryz.sizeOf0
  v0 := Tryz.zeroValue0
  t4 := Tryz.underlying4
  a4 := Tryz.isAgg4
  z4 := Tryz.sizeOf4
  v4 := Tryz.zeroValue4
  t23 := Tryz.underlying224
  a23 := Tryz.isAgg224
  z23 := Tryz.sizeOf224
  v23 := Tryz.zeroValue224
  t26 := Tryz.underlying3
  a26 := Tryz.isAgg3
  z26 := Tryz.sizeOf3
  v26 := Tryz.zeroValue3
  t27 := Tryz.underlying293
  a27 := Tryz.isAgg293
  z27 := Tryz.sizeOf293
  v27 := Tryz.zeroValue293
  t28 := Tryz.underlying294
  a28 := Tryz.isAgg294
  z28 := Tryz.sizeOf294
  v28 := Tryz.zeroValue294
  t33 := Tryz.underlying41
  a33 := Tryz.isAgg41
  z33 := Tryz.sizeOf41
  v33 := Tryz.zeroValue41 }
def Tryz.sortedA_ren : Go.Shelf.Ren := ⟨fun | 6 => 207 | 8 => 276 | 9 => 89 | 11 => 325 | 13 => 148 | 12 => 147 | 23 => 231 | 24 => 232 | 14 => 222 | 15 => 223 | 16 => 224 | 17 => 225 | 18 => 226 | 19 => 227 | 20 => 228 | 21 => 229 | 22 => 230 | 25 => 286 | 26 => 287 | 27 => 288 | 28 => 289 | 29 => 290 | 30 => 291 | 31 => 331 | n => n, fun | 26 => 3 | 28 => 294 | 24 => 97 | 0 => 0 | 3 => 3 | 37 => 241 | 48 => 314 | 50 => 193 | 4 => 4 | 40 => 307 | 39 => 306 | 45 => 85 | 5 => 5 | 9 => 9 | 51 => 360 | 55 => 364 | 57 => 383 | 58 => 203 | 33 => 41 | n => n, fun | n => n⟩
theorem Tryz.sortedA : Go.Proofs.SlLaysZI.n6 Tryz.prog Tryz.sortedA_ren := {
  mixed := by kernel_rfl
  f6 := ⟨Tryz.f207.name, by decide, Tryz.func207.trans (congrArg some (by kernel_rfl))⟩
  f8 := ⟨Tryz.f276.name, by decide, Tryz.func276.trans (congrArg some (by kernel_rfl))⟩
  f11 := ⟨Tryz.f325.name, by decide, Tryz.func325.trans (congrArg some (by kernel_rfl))⟩
  t0 := Tryz.underlying0
  a0 := Tryz.isAgg0
  z0 := Tryz.sizeOf0
  v0 := Tryz.zeroValue0
  t24 := Tryz.underlying97
  a24 := Tryz.isAgg97
  z24 := Tryz.sizeOf97
  v24 := Tryz.zeroValue97
  t26 := Tryz.underlying3
  a26 := Tryz.isAgg3
  z26 := Tryz.sizeOf3
  v26 := Tryz.zeroValue3
  t28 := Tryz.underlying294
  a28 := Tryz.isAgg294
  z28 := Tryz.sizeOf294
  v28 := Tryz.zeroValue294
  i26 := by kernel_rfl }
def Tryz.sortA_ren : Go.Shelf.Ren := ⟨fun | 5 => 89 | 8 => 148 | 7 => 147 | 19 => 231 | 20 => 232 | 10 => 222 | 11 => 223 | 12 => 224 | 13 => 225 | 14 => 226 | 15 => 227 | 16 => 228 | 17 => 229 | 18 => 230 | 30 => 286 | 31 => 287 | 32 => 288 | 33 => 289 | 34 => 290 | 35 => 291 | 40 => 331 | n => n, fun | 23 => 97 | 25 => 3 | 3 => 3 | 32 => 241 | 22 => 97 | 0 => 0 | 44 => 314 | 46 => 193 | 4 => 4 | 36 => 307 | 35 => 306 | 41 => 85 | 5 => 5 | 9 => 9 | 53 => 360 | 57 => 364 | 63 => 383 | 64 => 203 | n => n, fun | n => n⟩
theorem Tryz.sortA : Go.Proofs.SlLaysM.n5 Tryz.prog Tryz.sortA_ren := {
  mixed := by kernel_rfl
  f5 := ⟨Tryz.f89.name, by decide, Tryz.func89.trans (congrArg some (by kernel_rfl))⟩
  f7 := ⟨Tryz.f147.name, by decide, Tryz.func147.trans (congrArg some (by kernel_rfl))⟩
  f8 := Tryz.func148.trans (congrArg some (by kernel_rfl))
  f10 := ⟨Tryz.f222.name, by decide, Tryz.func222.trans (congrArg some (by kernel_rfl))⟩
  f11 := ⟨Tryz.f223.name, by decide, Tryz.func223.trans (congrArg some (by kernel_rfl))⟩
  f12 := ⟨Tryz.f224.name, by decide, Tryz.func224.trans (congrArg some (by kernel_rfl))⟩
  f13 := ⟨Tryz.f225.name, by decide, Tryz.func225.trans (congrArg some (by kernel_rfl))⟩
  f14 := ⟨Tryz.f226.name, by decide, Tryz.func226.trans (congrArg some (by kernel_rfl))⟩
  f15 := ⟨Tryz.f227.name, by decide, Tryz.func227.trans (congrArg some (by kernel_rfl))⟩
  f16 := ⟨Tryz.f228.name, by decide, Tryz.func228.trans (congrArg some (by kernel_rfl))⟩
  f17 := ⟨Tryz.f229.name, by decide, Tryz.func229.trans (congrArg some (by kernel_rfl))⟩
  f18 := ⟨Tryz.f230.name, by decide, Tryz.func230.trans (congrArg some (by kernel_rfl))⟩
  f19 := Tryz.func231.trans (congrArg some (by kernel_rfl))
  f20 := Tryz.func232.trans (congrArg some (by kernel_rfl))
  f30 := ⟨Tryz.f286.name, by decide, Tryz.func286.trans (congrArg some (by kernel_rfl))⟩
  f31 := Tryz.func287.trans (congrArg some (by kernel_rfl))
  f32 := Tryz.func288.trans (congrArg some (by kernel_rfl))
  f33 := ⟨Tryz.f289.name, by decide, Tryz.func289.trans (congrArg some (by kernel_rfl))⟩
  f34 := ⟨Tryz.f290.name, by decide, Tryz.func290.trans (congrArg some (by kernel_rfl))⟩
  f35 := ⟨Tryz.f291.name, by decide, Tryz.func291.trans (congrArg some (by kernel_rfl))⟩
  f40 := ⟨Tryz.f331.name, by decide, Tryz.func331.trans (congrArg some (by kernel_rfl))⟩
  t0 := Tryz.underlying0
  a0 := Tryz.isAgg0
  z0 := Tryz.sizeOf0
  v0 := Tryz.zeroValue0
  t3 := Tryz.underlying3
  a3 := Tryz.isAgg3
  z3 := Tryz.sizeOf3
  v3 := Tryz.zeroValue3
  t4 := Tryz.underlying4
  a4 := Tryz.isAgg4
  z4 := Tryz.sizeOf4
  v4 := Tryz.zeroValue4
  t5 := Tryz.underlying5
  a5 := Tryz.isAgg5
  z5 := Tryz.sizeOf5
  v5 := Tryz.zeroValue5
  t9 := Tryz.underlying9
  a9 := Tryz.isAgg9
  z9 := Tryz.sizeOf9
  v9 := Tryz.zeroValue9
  t22 := Tryz.underlying97
  a22 := Tryz.isAgg97
  z22 := Tryz.sizeOf97
  v22 := Tryz.zeroValue97
  t23 := Tryz.underlying97
  a23 := Tryz.isAgg97
  z23 := Tryz.sizeOf97
  v23 := Tryz.zeroValue97
  t25 := Tryz.underlying3
  a25 := Tryz.isAgg3
  z25 := Tryz.sizeOf3
  v25 := Tryz.zeroValue3
  t32 := Tryz.underlying241
  a32 := Tryz.isAgg241
  z32 := Tryz.sizeOf241
  v32 := Tryz.zeroValue241
  t35 := Tryz.underlying306
  a35 := Tryz.isAgg306
  z35 := Tryz.sizeOf306
  v35 := Tryz.zeroValue306
  t36 := Tryz.underlying307
  a36 := Tryz.isAgg307
  z36 := Tryz.sizeOf307
  v36 := Tryz.zeroValue307
  t41 := Tryz.underlying85
  a41 := Tryz.isAgg85
  z41 := Tryz.sizeOf85
  v41 := Tryz.zeroValue85
  t44 := Tryz.underlying314
  a44 := Tryz.isAgg314
  z44 := Tryz.sizeOf314
  v44 := Tryz.zeroValue314
  t46 := Tryz.underlying193
  a46 := Tryz.isAgg193
  z46 := Tryz.sizeOf193
  v46 := Tryz.zeroValue193
  t53 := Tryz.underlying360
  a53 := Tryz.isAgg360
  z53 := Tryz.sizeOf360
  v53 := Tryz.zeroValue360
  t57 := Tryz.underlying364
  a57 := Tryz.isAgg364
  z57 := Tryz.sizeOf364
  v57 := Tryz.zeroValue364
  t63 := Tryz.underlying383
  a63 := Tryz.isAgg383
  z63 := Tryz.sizeOf383
  v63 := Tryz.zeroValue383
  t64 := Tryz.underlying203
  a64 := Tryz.isAgg203
  z64 := Tryz.sizeOf203
  v64 := Tryz.zeroValue203 }
end Go.Proofs
