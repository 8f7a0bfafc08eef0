/- A part of the proof of ShelfArgs: the program run by the evaluator. No condition. -/
import Derived.Test.YtidmnoafhdhhlaaGreatDoorVYM
import Derived.Test.YtidmnoafhdhhlaaGreatDoorVYRmke
set_option linter.all false
namespace Go.Proofs.Aud
noncomputable section
open Go Go.VE
set_option maxRecDepth 100000
noncomputable def ex_mbo : Nat → Option I := exC 252 (iMemo mke) ex0
theorem ex_mbo_ok : ExOk ex_mbo := exC_ok (memo_ok ex0_ok mke_good mke_run) ex0_ok
theorem mbo_run : (lv (cxT ex_mbo) 500).call 27 mbo.args mbo.h0 mbo.n0 mbo.chk = .fin .undef .nil 0 := by kernel_rfl
end
end Go.Proofs.Aud
