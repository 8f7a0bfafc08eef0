/-
  DERIVED: THE SHELF's CONTRACTS AT THIS DUMP, IN PLAIN WORDS (tools/lay-plain.mjs out of 'YtjpelmgihpmohaaGreatDoorSh.lean', which tools/lay-shelf.mjs wrote): THE SAME DECLARATIONS UNDER THE SAME NAMES: 'import', 'namespace', 'open', 'def', 'theorem' AND NOTHING ELSE: no command of the shelf's: FOR A HAND-IN. Each laying: the table of numbers ('.._ren') and one theorem, a field a fact of the dump's own or the kernel's comparison; each contract: ONE APPLICATION.
-/
import Derived.Shelf.SlGeneric
import Derived.Shelf.SlIterI.Nil
import Derived.Shelf.SortM.Plain
import Derived.Shelf.SortM.SortNone
import Derived.Ground.GgzProg
import Derived.Ground.SlgmProg
import Derived.Test.YtjpelmgihpmohaaGreatDoorProg
namespace Go.Proofs
open Go.Shelf
def Tryz.keysA_ren : Go.Shelf.Ren := ⟨fun | 7 => 243 | 10 => 328 | n => n, fun | 23 => 250 | 26 => 3 | 3 => 54 | 28 => 333 | 0 => 0 | 27 => 332 | 33 => 287 | 4 => 4 | n => n, fun | n => n⟩
theorem Tryz.keysA : Go.Proofs.SlLaysZI.n7 Tryz.prog Tryz.keysA_ren := {
  mixed := by kernel_rfl
  f7 := ⟨Tryz.f243.name, by decide, Tryz.func243.trans (congrArg some (by kernel_rfl))⟩
  f10 := ⟨Tryz.f328.name, by decide, Tryz.func328.trans (congrArg some (by kernel_rfl))⟩
  t0 := Tryz.underlying0
  a0 := Tryz.isAgg0
  z0 := Tryz.sizeOf0
  v0 := Tryz.zeroValue0
  t4 := Tryz.underlying4
  a4 := Tryz.isAgg4
  z4 := Tryz.sizeOf4
  v4 := Tryz.zeroValue4
  t23 := Tryz.underlying250
  a23 := Tryz.isAgg250
  z23 := Tryz.sizeOf250
  v23 := Tryz.zeroValue250
  t26 := Tryz.underlying3
  a26 := Tryz.isAgg3
  z26 := Tryz.sizeOf3
  v26 := Tryz.zeroValue3
  t27 := Tryz.underlying332
  a27 := Tryz.isAgg332
  z27 := Tryz.sizeOf332
  v27 := Tryz.zeroValue332
  t28 := Tryz.underlying333
  a28 := Tryz.isAgg333
  z28 := Tryz.sizeOf333
  v28 := Tryz.zeroValue333
  t33 := Tryz.underlying287
  a33 := Tryz.isAgg287
  z33 := Tryz.sizeOf287
  v33 := Tryz.zeroValue287 }
def Tryz.sortedA_ren : Go.Shelf.Ren := ⟨fun | 6 => 242 | 8 => 326 | 9 => 327 | 11 => 396 | 13 => 266 | 12 => 397 | 23 => 350 | 24 => 351 | 14 => 435 | 15 => 436 | 16 => 437 | 17 => 438 | 18 => 439 | 19 => 440 | 20 => 441 | 21 => 442 | 22 => 443 | 25 => 473 | 26 => 408 | 27 => 409 | 28 => 474 | 29 => 475 | 30 => 417 | 31 => 483 | n => n, fun | 26 => 3 | 28 => 333 | 24 => 42 | 0 => 0 | 3 => 3 | 37 => 361 | 48 => 439 | 50 => 78 | 4 => 4 | 40 => 433 | 39 => 432 | 45 => 239 | 5 => 5 | 9 => 9 | 51 => 467 | 55 => 471 | 57 => 492 | 58 => 243 | 33 => 287 | n => n, fun | n => n⟩
theorem Tryz.sortedA : Go.Proofs.SlLaysZI.n6 Tryz.prog Tryz.sortedA_ren := {
  mixed := by kernel_rfl
  f6 := ⟨Tryz.f242.name, by decide, Tryz.func242.trans (congrArg some (by kernel_rfl))⟩
  f8 := ⟨Tryz.f326.name, by decide, Tryz.func326.trans (congrArg some (by kernel_rfl))⟩
  f11 := ⟨Tryz.f396.name, by decide, Tryz.func396.trans (congrArg some (by kernel_rfl))⟩
  t0 := Tryz.underlying0
  a0 := Tryz.isAgg0
  z0 := Tryz.sizeOf0
  v0 := Tryz.zeroValue0
  t24 := Tryz.underlying42
  a24 := Tryz.isAgg42
  z24 := Tryz.sizeOf42
  v24 := Tryz.zeroValue42
  t26 := Tryz.underlying3
  a26 := Tryz.isAgg3
  z26 := Tryz.sizeOf3
  v26 := Tryz.zeroValue3
  t28 := Tryz.underlying333
  a28 := Tryz.isAgg333
  z28 := Tryz.sizeOf333
  v28 := Tryz.zeroValue333
  i26 := by kernel_rfl }
def Tryz.sortA_ren : Go.Shelf.Ren := ⟨fun | 5 => 327 | 8 => 266 | 7 => 397 | 19 => 350 | 20 => 351 | 10 => 435 | 11 => 436 | 12 => 437 | 13 => 438 | 14 => 439 | 15 => 440 | 16 => 441 | 17 => 442 | 18 => 443 | 30 => 473 | 31 => 408 | 32 => 409 | 33 => 474 | 34 => 475 | 35 => 417 | 40 => 483 | n => n, fun | 23 => 42 | 25 => 3 | 3 => 3 | 32 => 361 | 22 => 42 | 0 => 0 | 44 => 439 | 46 => 78 | 4 => 4 | 36 => 433 | 35 => 432 | 41 => 239 | 5 => 5 | 9 => 9 | 53 => 467 | 57 => 471 | 63 => 492 | 64 => 243 | n => n, fun | n => n⟩
theorem Tryz.sortA : Go.Proofs.SlLaysM.n5 Tryz.prog Tryz.sortA_ren := {
  mixed := by kernel_rfl
  f5 := ⟨Tryz.f327.name, by decide, Tryz.func327.trans (congrArg some (by kernel_rfl))⟩
  f7 := ⟨Tryz.f397.name, by decide, Tryz.func397.trans (congrArg some (by kernel_rfl))⟩
  f8 := Tryz.func266.trans (congrArg some (by kernel_rfl))
  f10 := ⟨Tryz.f435.name, by decide, Tryz.func435.trans (congrArg some (by kernel_rfl))⟩
  f11 := ⟨Tryz.f436.name, by decide, Tryz.func436.trans (congrArg some (by kernel_rfl))⟩
  f12 := ⟨Tryz.f437.name, by decide, Tryz.func437.trans (congrArg some (by kernel_rfl))⟩
  f13 := ⟨Tryz.f438.name, by decide, Tryz.func438.trans (congrArg some (by kernel_rfl))⟩
  f14 := ⟨Tryz.f439.name, by decide, Tryz.func439.trans (congrArg some (by kernel_rfl))⟩
  f15 := ⟨Tryz.f440.name, by decide, Tryz.func440.trans (congrArg some (by kernel_rfl))⟩
  f16 := ⟨Tryz.f441.name, by decide, Tryz.func441.trans (congrArg some (by kernel_rfl))⟩
  f17 := ⟨Tryz.f442.name, by decide, Tryz.func442.trans (congrArg some (by kernel_rfl))⟩
  f18 := ⟨Tryz.f443.name, by decide, Tryz.func443.trans (congrArg some (by kernel_rfl))⟩
  f19 := Tryz.func350.trans (congrArg some (by kernel_rfl))
  f20 := Tryz.func351.trans (congrArg some (by kernel_rfl))
  f30 := ⟨Tryz.f473.name, by decide, Tryz.func473.trans (congrArg some (by kernel_rfl))⟩
  f31 := Tryz.func408.trans (congrArg some (by kernel_rfl))
  f32 := Tryz.func409.trans (congrArg some (by kernel_rfl))
  f33 := ⟨Tryz.f474.name, by decide, Tryz.func474.trans (congrArg some (by kernel_rfl))⟩
  f34 := ⟨Tryz.f475.name, by decide, Tryz.func475.trans (congrArg some (by kernel_rfl))⟩
  f35 := ⟨Tryz.f417.name, by decide, Tryz.func417.trans (congrArg some (by kernel_rfl))⟩
  f40 := ⟨Tryz.f483.name, by decide, Tryz.func483.trans (congrArg some (by kernel_rfl))⟩
  t0 := Tryz.underlying0
  a0 := Tryz.isAgg0
  z0 := Tryz.sizeOf0
  v0 := Tryz.zeroValue0
  t3 := Tryz.underlying3
  a3 := Tryz.isAgg3
  z3 := Tryz.sizeOf3
  v3 := Tryz.zeroValue3
  t4 := Tryz.underlying4
  a4 := Tryz.isAgg4
  z4 := Tryz.sizeOf4
  v4 := Tryz.zeroValue4
  t5 := Tryz.underlying5
  a5 := Tryz.isAgg5
  z5 := Tryz.sizeOf5
  v5 := Tryz.zeroValue5
  t9 := Tryz.underlying9
  a9 := Tryz.isAgg9
  z9 := Tryz.sizeOf9
  v9 := Tryz.zeroValue9
  t22 := Tryz.underlying42
  a22 := Tryz.isAgg42
  z22 := Tryz.sizeOf42
  v22 := Tryz.zeroValue42
  t23 := Tryz.underlying42
  a23 := Tryz.isAgg42
  z23 := Tryz.sizeOf42
  v23 := Tryz.zeroValue42
  t25 := Tryz.underlying3
  a25 := Tryz.isAgg3
  z25 := Tryz.sizeOf3
  v25 := Tryz.zeroValue3
  t32 := Tryz.underlying361
  a32 := Tryz.isAgg361
  z32 := Tryz.sizeOf361
  v32 := Tryz.zeroValue361
  t35 := Tryz.underlying432
  a35 := Tryz.isAgg432
  z35 := Tryz.sizeOf432
  v35 := Tryz.zeroValue432
  t36 := Tryz.underlying433
  a36 := Tryz.isAgg433
  z36 := Tryz.sizeOf433
  v36 := Tryz.zeroValue433
  t41 := Tryz.underlying239
  a41 := Tryz.isAgg239
  z41 := Tryz.sizeOf239
  v41 := Tryz.zeroValue239
  t44 := Tryz.underlying439
  a44 := Tryz.isAgg439
  z44 := Tryz.sizeOf439
  v44 := Tryz.zeroValue439
  t46 := Tryz.underlying78
  a46 := Tryz.isAgg78
  z46 := Tryz.sizeOf78
  v46 := Tryz.zeroValue78
  t53 := Tryz.underlying467
  a53 := Tryz.isAgg467
  z53 := Tryz.sizeOf467
  v53 := Tryz.zeroValue467
  t57 := Tryz.underlying471
  a57 := Tryz.isAgg471
  z57 := Tryz.sizeOf471
  v57 := Tryz.zeroValue471
  t63 := Tryz.underlying492
  a63 := Tryz.isAgg492
  z63 := Tryz.sizeOf492
  v63 := Tryz.zeroValue492
  t64 := Tryz.underlying243
  a64 := Tryz.isAgg243
  z64 := Tryz.sizeOf243
  v64 := Tryz.zeroValue243 }
end Go.Proofs
