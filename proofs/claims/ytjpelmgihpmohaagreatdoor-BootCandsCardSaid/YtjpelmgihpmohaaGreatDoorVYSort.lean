/- A part of the proof of a law of this seat: the program run by the evaluator. No condition. -/
import Derived.Shelf.SlIterI.Nil
import Derived.Shelf.SortM.Plain
import Derived.Shelf.SortM.SortNone
import Derived.Test.YtjpelmgihpmohaaGreatDoorLays
import Derived.Test.YtjpelmgihpmohaaGreatDoorProg
import Derived.Test.YtjpelmgihpmohaaGreatDoorVE18
set_option linter.all false
namespace Go.Proofs
noncomputable section
noncomputable section
open Go.RowKit Go.Maps Go.Sort Go.Shelf


theorem Tryz.sortsA (m : Nat) : AnyZI.SortsIn Tryz.prog Tryz.sortedA_ren Fence.wide m :=
  ⟨fun blk off cap ss W hH hblk hsz => callsIn_wide.2 (AnyM.slices_Sort_int Tryz.sortA blk off cap ss W hH hblk hsz),
   fun p cap W => callsIn_wide.2 (AnyM.slices_Sort_int_none Tryz.sortA p cap W)⟩
end
end
end Go.Proofs
