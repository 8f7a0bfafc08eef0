/-
  DERIVED: THE SHELF's CONTRACTS AT THIS DUMP, IN PLAIN WORDS (tools/lay-plain.mjs out of 'YtidmnoafhdhhlaaGreatDoorSh.lean', which tools/lay-shelf.mjs wrote): THE SAME DECLARATIONS UNDER THE SAME NAMES: 'import', 'namespace', 'open', 'def', 'theorem' AND NOTHING ELSE: no command of the shelf's: FOR A HAND-IN. Each laying: the table of numbers ('.._ren') and one theorem, a field a fact of the dump's own or the kernel's comparison; each contract: ONE APPLICATION.
-/
import Derived.Shelf.SlGeneric
import Derived.Shelf.SlIterI.Nil
import Derived.Shelf.SortM.Plain
import Derived.Shelf.SortM.SortNone
import Derived.Ground.GgzProg
import Derived.Ground.SlgmProg
import Derived.Test.YtidmnoafhdhhlaaGreatDoorProg
namespace Go.Proofs
open Go.Shelf
def Tryz.keysA_ren : Go.Shelf.Ren := ⟨fun | 7 => 287 | 10 => 371 | n => n, fun | 23 => 286 | 26 => 3 | 3 => 24 | 28 => 370 | 0 => 0 | 27 => 369 | 33 => 311 | 4 => 4 | n => n, fun | n => n⟩
theorem Tryz.keysA : Go.Proofs.SlLaysZI.n7 Tryz.prog Tryz.keysA_ren := {
  mixed := by kernel_rfl
  f7 := ⟨Tryz.f287.name, by decide, Tryz.func287.trans (congrArg some (by kernel_rfl))⟩
  f10 := ⟨Tryz.f371.name, by decide, Tryz.func371.trans (congrArg some (by kernel_rfl))⟩
  t0 := Tryz.underlying0
  a0 := Tryz.isAgg0
  z0 := Tryz.sizeOf0
  v0 := Tryz.zeroValue0
  t4 := Tryz.underlying4
  a4 := Tryz.isAgg4
  z4 := Tryz.sizeOf4
  v4 := Tryz.zeroValue4
  t23 := Tryz.underlying286
  a23 := Tryz.isAgg286
  z23 := Tryz.sizeOf286
  v23 := Tryz.zeroValue286
  t26 := Tryz.underlying3
  a26 := Tryz.isAgg3
  z26 := Tryz.sizeOf3
  v26 := Tryz.zeroValue3
  t27 := Tryz.underlying369
  a27 := Tryz.isAgg369
  z27 := Tryz.sizeOf369
  v27 := Tryz.zeroValue369
  t28 := Tryz.underlying370
  a28 := Tryz.isAgg370
  z28 := Tryz.sizeOf370
  v28 := Tryz.zeroValue370
  t33 := Tryz.underlying311
  a33 := Tryz.isAgg311
  z33 := Tryz.sizeOf311
  v33 := Tryz.zeroValue311 }
def Tryz.sortedA_ren : Go.Shelf.Ren := ⟨fun | 6 => 286 | 8 => 369 | 9 => 370 | 11 => 424 | 13 => 225 | 12 => 425 | 23 => 321 | 24 => 322 | 14 => 454 | 15 => 455 | 16 => 456 | 17 => 457 | 18 => 458 | 19 => 459 | 20 => 460 | 21 => 461 | 22 => 462 | 25 => 479 | 26 => 386 | 27 => 387 | 28 => 480 | 29 => 481 | 30 => 444 | 31 => 487 | n => n, fun | 26 => 3 | 28 => 370 | 24 => 52 | 0 => 0 | 3 => 3 | 37 => 322 | 48 => 398 | 50 => 79 | 4 => 4 | 40 => 392 | 39 => 391 | 45 => 243 | 5 => 5 | 9 => 9 | 51 => 445 | 55 => 449 | 57 => 473 | 58 => 347 | 33 => 311 | n => n, fun | n => n⟩
theorem Tryz.sortedA : Go.Proofs.SlLaysZI.n6 Tryz.prog Tryz.sortedA_ren := {
  mixed := by kernel_rfl
  f6 := ⟨Tryz.f286.name, by decide, Tryz.func286.trans (congrArg some (by kernel_rfl))⟩
  f8 := ⟨Tryz.f369.name, by decide, Tryz.func369.trans (congrArg some (by kernel_rfl))⟩
  f11 := ⟨Tryz.f424.name, by decide, Tryz.func424.trans (congrArg some (by kernel_rfl))⟩
  t0 := Tryz.underlying0
  a0 := Tryz.isAgg0
  z0 := Tryz.sizeOf0
  v0 := Tryz.zeroValue0
  t24 := Tryz.underlying52
  a24 := Tryz.isAgg52
  z24 := Tryz.sizeOf52
  v24 := Tryz.zeroValue52
  t26 := Tryz.underlying3
  a26 := Tryz.isAgg3
  z26 := Tryz.sizeOf3
  v26 := Tryz.zeroValue3
  t28 := Tryz.underlying370
  a28 := Tryz.isAgg370
  z28 := Tryz.sizeOf370
  v28 := Tryz.zeroValue370
  i26 := by kernel_rfl }
def Tryz.sortA_ren : Go.Shelf.Ren := ⟨fun | 5 => 370 | 8 => 225 | 7 => 425 | 19 => 321 | 20 => 322 | 10 => 454 | 11 => 455 | 12 => 456 | 13 => 457 | 14 => 458 | 15 => 459 | 16 => 460 | 17 => 461 | 18 => 462 | 30 => 479 | 31 => 386 | 32 => 387 | 33 => 480 | 34 => 481 | 35 => 444 | 40 => 487 | n => n, fun | 23 => 52 | 25 => 3 | 3 => 3 | 32 => 322 | 22 => 52 | 0 => 0 | 44 => 398 | 46 => 79 | 4 => 4 | 36 => 392 | 35 => 391 | 41 => 243 | 5 => 5 | 9 => 9 | 53 => 445 | 57 => 449 | 63 => 473 | 64 => 347 | n => n, fun | n => n⟩
theorem Tryz.sortA : Go.Proofs.SlLaysM.n5 Tryz.prog Tryz.sortA_ren := {
  mixed := by kernel_rfl
  f5 := ⟨Tryz.f370.name, by decide, Tryz.func370.trans (congrArg some (by kernel_rfl))⟩
  f7 := ⟨Tryz.f425.name, by decide, Tryz.func425.trans (congrArg some (by kernel_rfl))⟩
  f8 := Tryz.func225.trans (congrArg some (by kernel_rfl))
  f10 := ⟨Tryz.f454.name, by decide, Tryz.func454.trans (congrArg some (by kernel_rfl))⟩
  f11 := ⟨Tryz.f455.name, by decide, Tryz.func455.trans (congrArg some (by kernel_rfl))⟩
  f12 := ⟨Tryz.f456.name, by decide, Tryz.func456.trans (congrArg some (by kernel_rfl))⟩
  f13 := ⟨Tryz.f457.name, by decide, Tryz.func457.trans (congrArg some (by kernel_rfl))⟩
  f14 := ⟨Tryz.f458.name, by decide, Tryz.func458.trans (congrArg some (by kernel_rfl))⟩
  f15 := ⟨Tryz.f459.name, by decide, Tryz.func459.trans (congrArg some (by kernel_rfl))⟩
  f16 := ⟨Tryz.f460.name, by decide, Tryz.func460.trans (congrArg some (by kernel_rfl))⟩
  f17 := ⟨Tryz.f461.name, by decide, Tryz.func461.trans (congrArg some (by kernel_rfl))⟩
  f18 := ⟨Tryz.f462.name, by decide, Tryz.func462.trans (congrArg some (by kernel_rfl))⟩
  f19 := Tryz.func321.trans (congrArg some (by kernel_rfl))
  f20 := Tryz.func322.trans (congrArg some (by kernel_rfl))
  f30 := ⟨Tryz.f479.name, by decide, Tryz.func479.trans (congrArg some (by kernel_rfl))⟩
  f31 := Tryz.func386.trans (congrArg some (by kernel_rfl))
  f32 := Tryz.func387.trans (congrArg some (by kernel_rfl))
  f33 := ⟨Tryz.f480.name, by decide, Tryz.func480.trans (congrArg some (by kernel_rfl))⟩
  f34 := ⟨Tryz.f481.name, by decide, Tryz.func481.trans (congrArg some (by kernel_rfl))⟩
  f35 := ⟨Tryz.f444.name, by decide, Tryz.func444.trans (congrArg some (by kernel_rfl))⟩
  f40 := ⟨Tryz.f487.name, by decide, Tryz.func487.trans (congrArg some (by kernel_rfl))⟩
  t0 := Tryz.underlying0
  a0 := Tryz.isAgg0
  z0 := Tryz.sizeOf0
  v0 := Tryz.zeroValue0
  t3 := Tryz.underlying3
  a3 := Tryz.isAgg3
  z3 := Tryz.sizeOf3
  v3 := Tryz.zeroValue3
  t4 := Tryz.underlying4
  a4 := Tryz.isAgg4
  z4 := Tryz.sizeOf4
  v4 := Tryz.zeroValue4
  t5 := Tryz.underlying5
  a5 := Tryz.isAgg5
  z5 := Tryz.sizeOf5
  v5 := Tryz.zeroValue5
  t9 := Tryz.underlying9
  a9 := Tryz.isAgg9
  z9 := Tryz.sizeOf9
  v9 := Tryz.zeroValue9
  t22 := Tryz.underlying52
  a22 := Tryz.isAgg52
  z22 := Tryz.sizeOf52
  v22 := Tryz.zeroValue52
  t23 := Tryz.underlying52
  a23 := Tryz.isAgg52
  z23 := Tryz.sizeOf52
  v23 := Tryz.zeroValue52
  t25 := Tryz.underlying3
  a25 := Tryz.isAgg3
  z25 := Tryz.sizeOf3
  v25 := Tryz.zeroValue3
  t32 := Tryz.underlying322
  a32 := Tryz.isAgg322
  z32 := Tryz.sizeOf322
  v32 := Tryz.zeroValue322
  t35 := Tryz.underlying391
  a35 := Tryz.isAgg391
  z35 := Tryz.sizeOf391
  v35 := Tryz.zeroValue391
  t36 := Tryz.underlying392
  a36 := Tryz.isAgg392
  z36 := Tryz.sizeOf392
  v36 := Tryz.zeroValue392
  t41 := Tryz.underlying243
  a41 := Tryz.isAgg243
  z41 := Tryz.sizeOf243
  v41 := Tryz.zeroValue243
  t44 := Tryz.underlying398
  a44 := Tryz.isAgg398
  z44 := Tryz.sizeOf398
  v44 := Tryz.zeroValue398
  t46 := Tryz.underlying79
  a46 := Tryz.isAgg79
  z46 := Tryz.sizeOf79
  v46 := Tryz.zeroValue79
  t53 := Tryz.underlying445
  a53 := Tryz.isAgg445
  z53 := Tryz.sizeOf445
  v53 := Tryz.zeroValue445
  t57 := Tryz.underlying449
  a57 := Tryz.isAgg449
  z57 := Tryz.sizeOf449
  v57 := Tryz.zeroValue449
  t63 := Tryz.underlying473
  a63 := Tryz.isAgg473
  z63 := Tryz.sizeOf473
  v63 := Tryz.zeroValue473
  t64 := Tryz.underlying347
  a64 := Tryz.isAgg347
  z64 := Tryz.sizeOf347
  v64 := Tryz.zeroValue347 }
end Go.Proofs
