/- A part of the proof of ShelfArgs: the program run by the evaluator. No condition. -/
import Derived.Test.YtidmnoafhdhhlaaGreatDoorVYM
import Derived.Test.YtidmnoafhdhhlaaGreatDoorVYRmk1
import Derived.Test.YtidmnoafhdhhlaaGreatDoorVYRmk2
set_option linter.all false
namespace Go.Proofs.Aud
noncomputable section
open Go Go.VE
set_option maxRecDepth 100000
noncomputable def ex_mw : Nat → Option I := exC 60 (orM mk1 (iMemo mk2)) ex0
theorem ex_mw_ok : ExOk ex_mw := exC_ok (orM_ok (memo_ok ex0_ok mk1_good mk1_run) (memo_ok ex0_ok mk2_good mk2_run)) ex0_ok
theorem mw_run : (lv (cxT ex_mw) 500).call 9 mw.args mw.h0 mw.n0 mw.chk = .fin .undef .nil 0 := by kernel_rfl
end
end Go.Proofs.Aud
