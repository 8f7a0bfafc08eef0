/- A part of the proof of ShelfStems: the program run by the evaluator. No condition. -/
import Derived.Test.YtidmnoafhdhhlaaGreatDoorVSR0
set_option linter.all false
namespace Go.Proofs.Aud
noncomputable section
open Go Go.VE
set_option maxRecDepth 100000
theorem m0_ok (args : List AV) (h : H) (n : Nat) (k : K) (rr : RR) (e : zlv m0 args h n k = rr) (hne : rr ≠ .fail) : CallLaw Tryz.prog 12 args h n k rr := memo_ok exN_ok m0_good m0_run args h n k rr e hne
theorem m1_ok (args : List AV) (h : H) (n : Nat) (k : K) (rr : RR) (e : zlv m1 args h n k = rr) (hne : rr ≠ .fail) : CallLaw Tryz.prog 12 args h n k rr := memo_ok exN_ok m1_good m1_run args h n k rr e hne
theorem ex_m2_ok : ExOk ex_m2 := (exC_ok (orN_ok m1_ok (fun args h n k rr e hne => run_ok exN_ok 500 12 args h n k rr e hne)) exN_ok)
theorem m2_ok (args : List AV) (h : H) (n : Nat) (k : K) (rr : RR) (e : zlv m2 args h n k = rr) (hne : rr ≠ .fail) : CallLaw Tryz.prog 14 args h n k rr := memo_ok ex_m2_ok m2_good m2_run args h n k rr e hne
theorem exT_ok : ExOk exT := (exC_ok (orN_ok m0_ok (fun args h n k rr e hne => run_ok exN_ok 500 12 args h n k rr e hne)) (exC_ok m2_ok exN_ok))
end
end Go.Proofs.Aud
