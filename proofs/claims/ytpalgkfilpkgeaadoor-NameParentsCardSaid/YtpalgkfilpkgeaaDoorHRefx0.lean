-- Laid by a program of this session out of the translation (the kit's printing program, with some contracts given by hand). Lean checks it.
import Derived.Test.YtpalgkfilpkgeaaDoorProg
import Derived.Below
import Derived.Deep.Draws
import Derived.Deep.AppendLies
import Derived.Maps.AppendAt
import Derived.OwnWalk
import Derived.Laws.BytesArg
import Derived.Laws.MakeOwn
import Derived.Laws.OwnMore
import Derived.Deep.OwnRows
import Derived.Tactics
import Derived.Lib.ConvBytes
import Derived.Laws.Slices
import Derived.WalkKit
import Derived.KernelRfl
import Derived.RowKit3
import Derived.Deep.LoopGhost
import Derived.Deep.QuietTactic
import Derived.BigQuiet
import Derived.WideLaws
import Derived.Deep.DeepCutAuto
import Derived.Deep.CutBlock
import Derived.Deep.RegionHeld3
import Derived.Laws.Rows
import Derived.Lib.AppendStr
import Derived.ArgAppend
import Derived.Laws.IdiomCopy
import Derived.OrdersHeld
import Derived.Laws.BitsLemmas
import Derived.RowKit
import Derived.Test.YtpalgkfilpkgeaaDoorGiven6
import Derived.Test.YtpalgkfilpkgeaaDoorWWords
import Derived.Test.YtpalgkfilpkgeaaDoorWLast
import Derived.Test.YtpalgkfilpkgeaaDoorWTab
import Derived.Test.YtpalgkfilpkgeaaDoorWFour
import Derived.Test.YtpalgkfilpkgeaaDoorWQPut
import Derived.Test.YtpalgkfilpkgeaaDoorWApart
import Derived.Test.YtpalgkfilpkgeaaDoorWArr
import Derived.Test.YtpalgkfilpkgeaaDoorWZeros
import Derived.Test.YtpalgkfilpkgeaaDoorWFoot
import Derived.Test.YtpalgkfilpkgeaaDoorWKept
import Derived.Test.YtpalgkfilpkgeaaDoorWShare
import Derived.Test.YtpalgkfilpkgeaaDoorWN
import Derived.Test.YtpalgkfilpkgeaaDoorWFootNe
import Derived.Test.YtpalgkfilpkgeaaDoorWAt
import Derived.Test.YtpalgkfilpkgeaaDoorWEqStruct
import Derived.Test.YtpalgkfilpkgeaaDoorWRepsOne
import Derived.Test.YtpalgkfilpkgeaaDoorWInv
import Derived.Test.YtpalgkfilpkgeaaDoorWInvWords
import Derived.Test.YtpalgkfilpkgeaaDoorWGuard
import Derived.Test.YtpalgkfilpkgeaaDoorWNEv
import Derived.Test.YtpalgkfilpkgeaaDoorWMore
namespace Go.Proofs.YtpalgkfilpkgeaaDoor.HRef
open Go.Proofs.YtpalgkfilpkgeaaDoor.Given2 Go.RowKit Go.Proofs.YtpalgkfilpkgeaaDoorW.PrintWords Go.Proofs.YtpalgkfilpkgeaaDoorW.PrintLast Go.Proofs.YtpalgkfilpkgeaaDoorW.PrintMore
attribute [local go_sem] max2_int min2_int max_two min_two max_three min_three max_four min_four   -- for this text's walks alone
set_option linter.unusedVariables false
set_option linter.unusedSimpArgs false



def errW : Option Int → Value
  | none => .nilIface
  | some c => .iface 0 (.int .i64 c)
theorem errW_none : errW none = .nilIface := rfl
theorem errW_some (c : Int) : errW (some c) = .iface 0 (.int .i64 c) := rfl

theorem info9 : (Tryd.prog.info? 9).map (fun i => (i.zero, i.size, i.bytes)) = some (some (.string ⟨#[]⟩), 1, 16) := by kernel_rfl
-- the values' own types

end Go.Proofs.YtpalgkfilpkgeaaDoor.HRef
