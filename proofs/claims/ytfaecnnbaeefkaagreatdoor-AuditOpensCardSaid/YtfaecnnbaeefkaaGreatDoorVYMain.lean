/- A part of the proof of AuditOpens: the program run by the evaluator. No condition. -/
import Derived.Test.YtfaecnnbaeefkaaGreatDoorVYR7
import Derived.Test.YtfaecnnbaeefkaaGreatDoorVYR5a
import Derived.Test.YtfaecnnbaeefkaaGreatDoorVYR10
set_option linter.all false
namespace Go.Proofs.Aud
noncomputable section
open Go Go.VE
set_option maxRecDepth 100000
noncomputable def exM : Nat → Option I := exC 7 (iMemo m7) (exC 5 (orM m5a ((lv (cxT ex0) 500).call 5)) (exC 10 (iMemo m10) ex0))
theorem exM_ok : ExOk exM := exC_ok (memo_ok ex0_ok m7_good m7_run) (exC_ok (orM_ok (memo_ok ex0_ok m5a_good m5a_run) (fun args h n k rr e hne => run_ok ex0_ok 500 5 args h n k rr e hne)) (exC_ok (memo_ok ex10_ok m10_good m10_run) ex0_ok))
noncomputable def rest3 : X := (xSeq (xOps [⟨0, none, oMv (sT 1)⟩, ⟨0, none, oCall 4 [(sL 0)]⟩, ⟨0, none, oMv (sL 0)⟩, ⟨0, none, oExt (sL 0) 0⟩, ⟨0, none, oExt (sL 1) 1⟩, ⟨4, none, oMv (sL 1)⟩, ⟨5, none, oMv (sL 1)⟩])
 (xSeq (xSeq (xOps [⟨0, none, oMv (sT 4)⟩, ⟨0, none, oEq eqP (sL 0) (sC .nilp)⟩, ⟨0, none, oMv (sL 0)⟩, ⟨0, (some (0, false)), oMv (sT 5)⟩, ⟨0, (some (1, false)), oNeN (sL 0)⟩, ⟨24, none, oPick (sL 2) (sC (.bool true)) (sL 0)⟩])
 (xCond (sT 24) (xSeq (xOps [⟨3, none, oMv (sC (.bool false))⟩])
 xRet)
 xSkip))
 (xSeq (xOps [⟨0, none, oMv (sT 4)⟩, ⟨0, none, oCall 5 [(sL 0)]⟩, ⟨0, none, oMv (sL 0)⟩, ⟨0, none, oExt (sL 0) 0⟩, ⟨0, none, oExt (sL 1) 1⟩, ⟨6, none, oMv (sL 1)⟩, ⟨7, none, oMv (sL 1)⟩])
 (xSeq (xSeq (xOps [⟨0, none, oMv (sT 6)⟩, ⟨0, none, oNe eqP (sL 0) (sC .nilp)⟩, ⟨0, none, oMv (sL 0)⟩, ⟨0, (some (0, false)), oMv (sT 7)⟩, ⟨0, (some (1, false)), oCall 6 [(sL 0), (sC (.str 5 418581342580)), (sC (.str 0 0)), (sC (.int 3 3))]⟩, ⟨0, (some (2, false)), oNot (sL 0)⟩, ⟨36, none, oPick (sL 3) (sC (.bool true)) (sL 0)⟩])
 (xCond (sT 36) (xSeq (xOps [⟨3, none, oMv (sC (.bool false))⟩])
 xRet)
 xSkip))
 (xSeq (xOps [⟨0, none, oCall 7 [(sC (.int 3 300)), (sC (.int 3 20)), (sC (.int 3 0))]⟩, ⟨8, none, oMv (sL 0)⟩])
 (xSeq (xSeq (xOps [⟨0, none, oMv (sT 8)⟩, ⟨39, none, oEq eqP (sL 0) (sC .nilp)⟩])
 (xCond (sT 39) (xSeq (xOps [⟨3, none, oMv (sC (.bool false))⟩])
 xRet)
 xSkip))
 (xSeq (xOps [⟨0, none, oMv (sT 8)⟩, ⟨0, none, oNilck (sL 0)⟩, ⟨0, none, oFaddr 0 (sL 0)⟩, ⟨0, none, oLoad1 (sL 0)⟩, ⟨0, none, oCall 5 [(sL 0)]⟩, ⟨0, none, oMv (sL 0)⟩, ⟨0, none, oExt (sL 0) 0⟩, ⟨0, none, oExt (sL 1) 1⟩, ⟨6, none, oMv (sL 1)⟩, ⟨7, none, oMv (sL 1)⟩])
 (xSeq (xOps [⟨0, none, oCall 8 [(sC .nilp)]⟩, ⟨0, none, oMv (sL 0)⟩, ⟨0, none, oExt (sL 0) 0⟩, ⟨0, none, oExt (sL 1) 1⟩, ⟨0, none, oMv (sL 1)⟩, ⟨10, none, oMv (sL 1)⟩])
 (xSeq (xOps [⟨0, none, oMv (sT 6)⟩, ⟨0, none, oNe eqP (sL 0) (sC .nilp)⟩, ⟨0, none, oMv (sL 0)⟩, ⟨0, (some (0, true)), oMv (sT 7)⟩, ⟨0, (some (1, true)), oEqN (sL 0)⟩, ⟨0, none, oPick (sL 2) (sL 0) (sC (.bool false))⟩, ⟨0, none, oMv (sL 0)⟩, ⟨0, (some (0, true)), oMv (sT 10)⟩, ⟨0, (some (1, true)), oCall 9 [(sL 0)]⟩, ⟨0, (some (2, true)), oEq (eqI 3) (sL 0) (sC (.int 3 1))⟩, ⟨0, none, oPick (sL 3) (sL 0) (sC (.bool false))⟩, ⟨0, none, oMv (sL 0)⟩, ⟨0, (some (0, true)), oCall 10 []⟩, ⟨0, none, oPick (sL 1) (sL 0) (sC (.bool false))⟩, ⟨3, none, oMv (sL 0)⟩])
 xRet)))))))))
def oK (a : Nat) : Op' := fun _ _ _ h n k => k (.int 3 a) h n
def opsA : List LOper := [⟨0, none, oMv (sT 1)⟩, ⟨0, none, oAnd 3 (sL 0) (sC (.int 3 511))⟩, ⟨0, none, oAdd 3 18446744073709551616 (sL 0) (sC (.int 3 130))⟩, ⟨1, none, oMv (sL 0)⟩]
def opsB (a : Nat) : List LOper := [⟨0, none, oMv (sT 1)⟩, ⟨0, none, oK a⟩, ⟨0, none, oAdd 3 18446744073709551616 (sL 0) (sC (.int 3 130))⟩, ⟨1, none, oMv (sL 0)⟩]
def first3 : X := xOps [⟨3, none, oMv (sC (.bool false))⟩]
noncomputable def lf3v (a : Nat) : LF := LF.mk [.tmp 3] (xSeq first3 (xSeq (xOps (opsB a)) rest3))
theorem lf3_is : lf3 = LF.mk [.tmp 3] (xSeq first3 (xSeq (xOps opsA) rest3)) := rfl
theorem region (u : Nat) (L : Lv) (h : H) (n : Nat) : xOps opsA L (putE (argsE [.int 3 u] 1 .nil) 3 (.bool false)) h n = xOps (opsB (Nat.land u 511)) L (putE (argsE [.int 3 u] 1 .nil) 3 (.bool false)) h n := by
  have e : xOps opsA L (putE (argsE [.int 3 u] 1 .nil) 3 (.bool false)) h n = frc (Nat.land u 511) (fun c => runOps L.call [⟨0, none, oAdd 3 18446744073709551616 (sL 0) (sC (.int 3 130))⟩, ⟨1, none, oMv (sL 0)⟩] [.int 3 c, .int 3 u] (putE (argsE [.int 3 u] 1 .nil) 3 (.bool false)) h n) := by kernel_rfl
  have e2 : (fun c => runOps L.call [⟨0, none, oAdd 3 18446744073709551616 (sL 0) (sC (.int 3 130))⟩, ⟨1, none, oMv (sL 0)⟩] [.int 3 c, .int 3 u] (putE (argsE [.int 3 u] 1 .nil) 3 (.bool false)) h n) (Nat.land u 511) = xOps (opsB (Nat.land u 511)) L (putE (argsE [.int 3 u] 1 .nil) 3 (.bool false)) h n := by kernel_rfl
  exact (e.trans (frc_eq _ _)).trans e2
theorem body (u : Nat) (L : Lv) (h : H) (n : Nat) (k : K) : runF L lf3 [.int 3 u] h n k = runF L (lf3v (Nat.land u 511)) [.int 3 u] h n k := by
  have e1 : runF L lf3 [.int 3 u] h n k = br (Nat.ble 1 1000000) (endF [.tmp 3] k (thenX (fun e h n => rest3 L e h n) (xOps opsA L (putE (argsE [.int 3 u] 1 .nil) 3 (.bool false)) h n))) .fail := by kernel_rfl
  have e2 : br (Nat.ble 1 1000000) (endF [.tmp 3] k (thenX (fun e h n => rest3 L e h n) (xOps (opsB (Nat.land u 511)) L (putE (argsE [.int 3 u] 1 .nil) 3 (.bool false)) h n))) .fail = runF L (lf3v (Nat.land u 511)) [.int 3 u] h n k := by kernel_rfl
  exact e1.trans ((congrArg (fun r => br (Nat.ble 1 1000000) (endF [.tmp 3] k (thenX (fun e h n => rest3 L e h n) r)) .fail) (region u L h n)).trans e2)
noncomputable def gl : Part := [(0, a0), (2, a1), (3, a2), (4, a3)]
noncomputable def h0 : H := putsL gl .nil
noncomputable def chkT : K := fun v _ _ => @AV.casesOn (fun _ => RR) v .fail (fun _ _ => .fail) (fun b => br b (.fin .undef .nil 0) .fail) (fun _ _ => .fail) (fun _ _ _ _ _ => .fail) (fun _ _ => .fail) (fun _ _ => .fail) .fail .fail .fail .fail .fail (fun _ => .fail) (fun _ _ => .fail) (fun _ => .fail) (fun _ => .fail) .fail (fun _ _ => .fail) (fun _ => .fail)
noncomputable def runV (u v : Nat) : RR := runF (lv (cxT exM) 499) (lf3v v) [.int 3 u] h0 10 chkT
theorem call3 (u : Nat) : (lv (cxT exM) 500).call 3 [.int 3 u] h0 10 chkT = runF (lv (cxT exM) 499) lf3 [.int 3 u] h0 10 chkT := by kernel_rfl
noncomputable def isFin (r : RR) : Bool := @RR.casesOn (fun _ => Bool) r false (fun _ _ _ => false) (fun _ _ _ _ => false) (fun _ _ _ => false) (fun v _ n => match v with | .undef => Nat.beq n 0 | _ => false)
noncomputable def allR (f : Nat → RR) (c : Nat) : Nat → Bool := @Nat.rec (fun _ => Nat → Bool) (fun _ => true) (fun _ go i => br (isFin (f i)) (frc (i + 1) go) false) c
end
end Go.Proofs.Aud
