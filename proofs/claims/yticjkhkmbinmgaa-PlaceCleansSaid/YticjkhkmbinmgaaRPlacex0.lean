-- Laid by a program of this session out of the translation (the kit's printing program, with some contracts given by hand). Lean checks it.
import Derived.Test.YticjkhkmbinmgaaProg
import Derived.Below
import Derived.Deep.Draws
import Derived.Deep.AppendLies
import Derived.Maps.AppendAt
import Derived.OwnWalk
import Derived.Laws.BytesArg
import Derived.Laws.MakeOwn
import Derived.Laws.OwnMore
import Derived.Deep.OwnRows
import Derived.Tactics
import Derived.Lib.ConvBytes
import Derived.Laws.Slices
import Derived.WalkKit
import Derived.KernelRfl
import Derived.RowKit3
import Derived.Deep.LoopGhost
import Derived.Deep.QuietTactic
import Derived.BigQuiet
import Derived.WideLaws
import Derived.Deep.DeepCutAuto
import Derived.Deep.CutBlock
import Derived.Deep.RegionHeld3
import Derived.Laws.Rows
import Derived.Lib.AppendStr
import Derived.ArgAppend
import Derived.Laws.IdiomCopy
import Derived.OrdersHeld
import Derived.Laws.BitsLemmas
import Derived.RowKit
import Derived.Test.YticjkhkmbinmgaaGivenD
import Derived.Test.YticjkhkmbinmgaaQCleanx2
import Derived.Test.YticjkhkmbinmgaaWWords
import Derived.Test.YticjkhkmbinmgaaWLast
import Derived.Test.YticjkhkmbinmgaaWTab
import Derived.Test.YticjkhkmbinmgaaWFour
import Derived.Test.YticjkhkmbinmgaaWQPut
import Derived.Test.YticjkhkmbinmgaaWApart
import Derived.Test.YticjkhkmbinmgaaWArr
import Derived.Test.YticjkhkmbinmgaaWZeros
import Derived.Test.YticjkhkmbinmgaaWFoot
import Derived.Test.YticjkhkmbinmgaaWKept
import Derived.Test.YticjkhkmbinmgaaWShare
import Derived.Test.YticjkhkmbinmgaaWN
import Derived.Test.YticjkhkmbinmgaaWFootNe
import Derived.Test.YticjkhkmbinmgaaWAt
import Derived.Test.YticjkhkmbinmgaaWEqStruct
import Derived.Test.YticjkhkmbinmgaaWRepsOne
import Derived.Test.YticjkhkmbinmgaaWInv
import Derived.Test.YticjkhkmbinmgaaWInvWords
import Derived.Test.YticjkhkmbinmgaaWGuard
import Derived.Test.YticjkhkmbinmgaaWNEv
import Derived.Test.YticjkhkmbinmgaaWMore
namespace Go.Proofs.Yticjkhkmbinmgaa.RPlace
open Go.Proofs.Yticjkhkmbinmgaa.QClean Go.Proofs.Yticjkhkmbinmgaa.GivenA Go.Proofs.Yticjkhkmbinmgaa.GivenB Go.Proofs.Yticjkhkmbinmgaa.GivenD Go.RowKit Go.Proofs.YticjkhkmbinmgaaW.PrintWords Go.Proofs.YticjkhkmbinmgaaW.PrintLast Go.Proofs.YticjkhkmbinmgaaW.PrintMore
attribute [local go_sem] max2_int min2_int max_two min_two max_three min_three max_four min_four   -- for this text's walks alone
set_option linter.unusedVariables false
set_option linter.unusedSimpArgs false



def errW : Option Int → Value
  | none => .nilIface
  | some c => .iface 0 (.int .i64 c)
theorem errW_none : errW none = .nilIface := rfl
theorem errW_some (c : Int) : errW (some c) = .iface 0 (.int .i64 c) := rfl

theorem info25 : (Try.prog.info? 25).map (fun i => (i.zero, i.size, i.bytes)) = some (some (.agg #[(.int .i64 0), (.int .i64 0)]), 2, 16) := by kernel_rfl
-- the values' own types

end Go.Proofs.Yticjkhkmbinmgaa.RPlace
