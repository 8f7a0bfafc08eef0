/- A part of the proof of ShelfArgs: the program run by the evaluator. No condition. -/
import Derived.Test.YtidmnoafhdhhlaaGreatDoorVYM
import Derived.Test.YtidmnoafhdhhlaaGreatDoorVYRmk3
import Derived.Test.YtidmnoafhdhhlaaGreatDoorVYRmk4
import Derived.Test.YtidmnoafhdhhlaaGreatDoorVYRmad
import Derived.Test.YtidmnoafhdhhlaaGreatDoorVYRmbo
set_option linter.all false
namespace Go.Proofs.Aud
noncomputable section
open Go Go.VE
set_option maxRecDepth 100000
noncomputable def ex_maw : Nat → Option I := exC 60 (orM mk3 (iMemo mk4)) (exC 12 (orM mad ((lv (cxT ex0) 500).call 12)) (exC 27 (iMemo mbo) ex0))
theorem ex_maw_ok : ExOk ex_maw := exC_ok (orM_ok (memo_ok ex0_ok mk3_good mk3_run) (memo_ok ex0_ok mk4_good mk4_run)) (exC_ok (orM_ok (memo_ok ex_mad_ok mad_good mad_run) (fun args h n k rr e hne => run_ok ex0_ok 500 12 args h n k rr e hne)) (exC_ok (memo_ok ex_mbo_ok mbo_good mbo_run) ex0_ok))
theorem maw_run : (lv (cxT ex_maw) 500).call 14 maw.args maw.h0 maw.n0 maw.chk = .fin .undef .nil 0 := by kernel_rfl
end
end Go.Proofs.Aud
