/- A part of the proof of ShelfStems: the program run by the evaluator. No condition. -/
import Derived.Shelf.SlIterI.Nil
import Derived.Shelf.SortM.Plain
import Derived.Shelf.SortM.SortNone
import Derived.Test.YtidmnoafhdhhlaaGreatDoorLays
import Derived.Test.YtidmnoafhdhhlaaGreatDoorProg
import Derived.Test.YtidmnoafhdhhlaaGreatDoorVE18
set_option linter.all false
namespace Go.Proofs
noncomputable section
open Go.RowKit Go.Maps Go.Sort Go.Shelf


theorem Tryz.sortsA (m : Nat) : AnyZI.SortsIn Tryz.prog Tryz.sortedA_ren Fence.wide m :=
  ⟨fun blk off cap ss W hH hblk hsz => callsIn_wide.2 (AnyM.slices_Sort_int Tryz.sortA blk off cap ss W hH hblk hsz),
   fun p cap W => callsIn_wide.2 (AnyM.slices_Sort_int_none Tryz.sortA p cap W)⟩
end
end Go.Proofs
