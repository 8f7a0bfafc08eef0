/- A part of the proof of ShelfTidies: the program run by the evaluator. No condition. -/
import Derived.Test.YtidmnoafhdhhlaaGreatDoorVE16
import Derived.Test.YtidmnoafhdhhlaaGreatDoorProg
import Derived.KernelRfl
set_option linter.all false
namespace Go.Proofs
open Go Go.VE
set_option maxRecDepth 100000
namespace Lo
noncomputable def p (a : Nat) (o : Op') : LOper := ⟨a, none, o⟩
noncomputable def q (o : Op') : LOper := ⟨0, none, o⟩
noncomputable def m (k : Nat) : LOper := ⟨0, none, oMv (sT k)⟩
noncomputable def w (k : Nat) : LOper := ⟨0, none, oMv (sL k)⟩
noncomputable def g (a i : Nat) (b : Bool) (o : Op') : LOper := ⟨a, some (i, b), o⟩
noncomputable def D (o : LOper) (c : Nat) (l : List Nat) : DOper := ⟨o, c, l⟩
noncomputable def L (k : Nat) : Sx := sL k
noncomputable def t (k : Nat) : Sx := sT k
noncomputable def i (u : Nat) : Sx := sC (.int 3 u)
noncomputable def s (n x : Nat) : Sx := sC (.str n x)
noncomputable def M : Nat := 18446744073709551616
noncomputable def Z : Nat := 9223372036854775808
noncomputable def S (l : List LOper) (b : X) : X := xSeq (xOps l) b
noncomputable def O (l : List LOper) : X := xOps l
noncomputable def R : X := xRet
noncomputable def Q (a b : X) : X := xSeq a b
noncomputable def C (a : Sx) (b c : X) : X := xCond a b c
noncomputable def T1 : Bool := true
noncomputable def F0 : Bool := false
end Lo
open Lo
noncomputable def tbT : Tb := tbP Tryz.prog [(270, "Kind", 503)]
noncomputable def lowAt (i : Nat) : Option LF := match Tryz.prog.funcs[i]? with | some fn => lowF tbT fn | none => none
noncomputable def lowGAt (i : Nat) : Option LG := match Tryz.prog.funcs[i]? with | some fn => lowGF tbT fn | none => none
noncomputable def lf4 : LF := LF.mk [.tmp 5] (S [p 5 (oMv (sC (.bool false)))]
 (S [q (oCall 9 [(i 400)]), p 6 (oMv (L 0))]
 (Q (S [m 6, p 20 (oEq eqP2 (L 0) (sC .nilp))]
 (C (t 20) (S [p 5 (oMv (sC (.bool false)))]
 R)
 xSkip))
 (Q (S [m 6, q (oNilck (L 0)), q (oFaddr 1 (L 0)), q (oLoad1 (L 0)), m 2, q (oAnd 3 (L 0) (i 3)), q (oBuildBs 1 [(0, (sC (.int 4 107)))]), q (oMark (L 0)), q (oBuildSl 1 1 (.cons .nils .nl) [(0, (L 0))]), q (oCall 12 [(L 5), (s 4 1650553701), (L 3), (s 1 49), (s 0 0), (L 0)]), w 0, q (oExt (L 0) 0), q (oExt (L 1) 1), w 1, p 8 (oMv (L 1))]
 (S [m 8, p 35 (oNeN (L 0))]
 (C (t 35) (S [p 5 (oMv (sC (.bool false)))]
 R)
 xSkip)))
 (S [m 6, q (oNilck (L 0)), q (oFaddr 1 (L 0)), q (oLoad1 (L 0)), q (oCall 15 [(L 0)]), w 0, q (oExt (L 0) 0), q (oExt (L 1) 1), p 9 (oNew (.cells 4 0 (.node (.node (.node .nil (some (.int 3 0)) .nil) (some (.int 3 0)) .nil) (some (.int 3 0)) (.node .nil (some (.int 3 0)) .nil)))), q (oStore 4 (L 0) (L 2)), p 10 (oMv (L 2))]
 (Q (S [m 1, q (oAnd 3 (L 0) (i 1)), q (oEq (eqI 3) (L 0) (i 1)), w 0, g 0 0 true (oMv (t 6)), g 0 1 true (oNilck (L 0)), g 0 2 true (oFaddr 1 (L 0)), g 0 3 true (oLoad1 (L 0)), g 0 4 true (oBuildBs 4 [(0, (sC (.int 4 104))), (1, (sC (.int 4 97))), (2, (sC (.int 4 108))), (3, (sC (.int 4 102)))]), g 0 5 true (oMark (L 0)), g 0 6 true (oCall 16 [(L 2), (s 10 223766819186222229122416), (L 0)]), g 0 7 true (oNeN (L 0)), q (oPick (L 8) (L 0) (sC (.bool false))), w 0, g 0 0 false (oMv (t 1)), g 0 1 false (oAnd 3 (L 0) (i 2)), g 0 2 false (oEq (eqI 3) (L 0) (i 2)), g 0 3 false (oMv (L 0)), g 0 0 true (oMv (t 6)), g 0 1 true (oNilck (L 0)), g 0 2 true (oFaddr 1 (L 0)), g 0 3 true (oLoad1 (L 0)), g 0 4 true (oCall 16 [(L 0), (s 12 14668418577763956126261734768), (sC .nils)]), g 0 5 true (oNeN (L 0)), g 0 10 false (oPick (L 6) (L 0) (sC (.bool false))), p 69 (oPick (L 11) (sC (.bool true)) (L 0))]
 (C (t 69) (S [p 5 (oMv (sC (.bool false)))]
 R)
 xSkip))
 (S [m 6, q (oNilck (L 0)), q (oFaddr 1 (L 0)), q (oLoad1 (L 0)), q (oCall 17 [(L 0)]), p 11 (oMv (L 0))]
 (S [m 6, q (oNilck (L 0)), q (oFaddr 1 (L 0)), q (oLoad1 (L 0)), q (oCall 15 [(L 0)]), w 0, q (oExt (L 0) 0), q (oExt (L 1) 1), p 12 (oNew (.cells 4 0 (.node (.node (.node .nil (some (.int 3 0)) .nil) (some (.int 3 0)) .nil) (some (.int 3 0)) (.node .nil (some (.int 3 0)) .nil)))), q (oStore 4 (L 0) (L 2)), p 13 (oMv (L 2))]
 (S [m 6, q (oNilck (L 0)), q (oFaddr 1 (L 0)), q (oLoad1 (L 0)), q (oCall 18 [(L 0), (s 6 52099772539507)]), w 0, q (oExt (L 0) 0), q (oExt (L 1) 1), p 14 (oMv (L 1)), p 15 (oMv (L 1))]
 (S [m 6, q (oNilck (L 0)), q (oFaddr 1 (L 0)), q (oLoad1 (L 0)), q (oCall 18 [(L 0), (s 8 3415257338845160819)]), w 0, q (oExt (L 0) 0), q (oExt (L 1) 1), p 16 (oMv (L 1)), p 17 (oMv (L 1))]
 (S [m 10, q (oEqN (L 0)), w 0, g 0 0 true (oMv (t 11)), g 0 1 true (oEqN (L 0)), q (oPick (L 2) (L 0) (sC (.bool false))), w 0, g 0 0 true (oMv (t 13)), g 0 1 true (oEqN (L 0)), q (oPick (L 2) (L 0) (sC (.bool false))), w 0, g 0 0 true (oMv (t 15)), g 0 1 true (oEqN (L 0)), q (oPick (L 2) (L 0) (sC (.bool false))), w 0, g 0 0 true (oMv (t 17)), g 0 1 true (oEqN (L 0)), q (oPick (L 2) (L 0) (sC (.bool false))), w 0, g 0 0 true (oLoadN 4 (t 9)), g 0 1 true (oLoadN 4 (t 12)), g 0 2 true (oEq (eqSt [3, 3, 3, 3]) (L 1) (L 0)), q (oPick (L 3) (L 0) (sC (.bool false))), w 0, g 0 0 true (oMv (t 14)), g 0 1 true (oLenSl (L 0)), g 0 2 true (oEq (eqI 3) (L 0) (i 1)), q (oPick (L 3) (L 0) (sC (.bool false))), w 0, g 0 0 true (oMv (t 16)), g 0 1 true (oLenSl (L 0)), g 0 2 true (oEq (eqI 3) (L 0) (i 1)), q (oPick (L 3) (L 0) (sC (.bool false))), w 0, g 0 0 true (oMv (t 6)), g 0 1 true (oNilck (L 0)), g 0 2 true (oFaddr 1 (L 0)), g 0 3 true (oLoad1 (L 0)), g 0 4 true (oCall 17 [(L 0)]), g 0 5 true (oEqN (L 0)), q (oPick (L 6) (L 0) (sC (.bool false))), w 0, g 0 0 true (oMv (t 6)), g 0 1 true (oNilck (L 0)), g 0 2 true (oFaddr 1 (L 0)), g 0 3 true (oLoad1 (L 0)), g 0 4 true (oCall 19 [(L 0)]), g 0 5 true (oEqN (L 0)), q (oPick (L 6) (L 0) (sC (.bool false))), w 0, g 0 0 true (oCall 14 []), q (oPick (L 1) (L 0) (sC (.bool false))), p 5 (oMv (L 0))]
 R)))))))))))
theorem eq_lf4 : lowAt 4 = some lf4 := by kernel_rfl
noncomputable def lf9 : LF := LF.mk [.tmp 3] (S [p 3 (oMv (sC .nilp))]
 (S [m 1, q (oAdd 3 M (L 0) (i 140)), q (oCall 33 [(L 0), (i 190), (i 3)]), p 4 (oMv (L 0))]
 (Q (S [m 4, q (oEq eqP2 (L 0) (sC .nilp)), w 0, g 0 0 false (oMv (t 4)), g 0 1 false (oNilck (L 0)), g 0 2 false (oFaddr 1 (L 0)), g 0 3 false (oLoad1 (L 0)), g 0 4 false (oCall 19 [(L 0)]), g 0 5 false (oNeN (L 0)), q (oPick (L 6) (sC (.bool true)) (L 0)), w 0, g 0 0 false (oMv (t 4)), g 0 1 false (oNilck (L 0)), g 0 2 false (oFaddr 2 (L 0)), g 0 3 false (oLoad1 (L 0)), g 0 4 false (oCall 34 [(L 0)]), g 0 5 false (oNe (eqI 3) (L 0) (i 0)), p 25 (oPick (L 6) (sC (.bool true)) (L 0))]
 (C (t 25) (S [p 3 (oMv (sC .nilp))]
 R)
 xSkip))
 (S [m 4, p 3 (oMv (L 0))]
 R))))
theorem eq_lf9 : lowAt 9 = some lf9 := by kernel_rfl
noncomputable def lf12 : LF := LF.mk [.tmp 13, .tmp 14] (S [p 13 (oMv (s 0 0)), p 14 (oMv (sC .nili))]
 (S [m 3, q (oLt 3 Z M (i 0) (L 0)), m 3, q (oBuild (.cons (.bool false) (.cons (.int 3 0) (.cons (.int 3 0) .nl))) [(0, 1, (L 1)), (1, 1, (L 0))]), p 15 (oNew (.cells 3 0 (.node (.node .nil (some (.int 3 0)) .nil) (some (.bool false)) (.node .nil (some (.int 3 0)) .nil)))), q (oStore 3 (L 0) (L 1))]
 (Q (S [m 1, q (oEq eqP2 (L 0) (sC .nilp)), w 0, g 0 0 false (oMv (t 3)), g 0 1 false (oLt 3 Z M (L 0) (i 0)), q (oPick (L 2) (sC (.bool true)) (L 0)), w 0, g 0 0 false (oMv (t 3)), g 0 1 false (oLt 3 Z M (i 99) (L 0)), q (oPick (L 2) (sC (.bool true)) (L 0)), w 0, g 0 0 false (oMv (t 6)), g 0 1 false (oLenSl (L 0)), g 0 2 false (oLt 3 Z M (L 0) (i 1)), q (oPick (L 3) (sC (.bool true)) (L 0)), w 0, g 0 0 false (oMv (t 6)), g 0 1 false (oLenSl (L 0)), g 0 2 false (oLt 3 Z M (i 9) (L 0)), q (oPick (L 3) (sC (.bool true)) (L 0)), w 0, g 0 0 false (oMv (t 2)), g 0 1 false (oLoadN 3 (t 15)), g 0 2 false (oCall 36 [(L 1), (L 0)]), g 0 3 false (oNot (L 0)), p 49 (oPick (L 4) (sC (.bool true)) (L 0))]
 (C (t 49) (S [m 2, q (oCall 37 [(L 0), (i 1)]), p 13 (oMv (s 0 0)), p 14 (oMv (L 1))]
 R)
 xSkip))
 (Q (xDr [D (m 4) 2 [], D (m 5) 2 [], D (m 6) 2 [], D (q (oCall 38 [(L 2), (L 1), (L 0)])) 0 [], D (m 2) 2 [], D (q (oLoadN 3 (t 15))) 1 [7], D (q (oCall 39 [(L 1), (L 0)])) 0 [], D (p 16 (oNew (.cells 5 0 (.node (.node (.node .nil (some .nils) .nil) (some (.str 0 0)) .nil) (some (.str 0 0)) (.node (.node .nil (some (.str 0 0)) .nil) (some (.str 0 0)) .nil))))) 0 [], D (q (oStore 5 (L 0) (L 4))) 0 [], D (p 17 (oMv (L 2))) 2 []])
 (Q (S [q (oLoadN 5 (t 16)), q (oCall 40 [(L 0)]), p 61 (oNot (L 0))]
 (C (t 61) (S [m 2, q (oCall 37 [(L 0), (i 1)]), p 13 (oMv (s 0 0)), p 14 (oMv (L 1))]
 R)
 xSkip))
 (S [m 1, q (oCall 41 [(L 0)]), w 0, q (oExt (L 0) 0), q (oExt (L 1) 1), p 18 (oMv (L 1)), p 19 (oMv (L 1))]
 (Q (xBlock 0 (S [m 19, q (oNeN (L 0)), p 69 (oMv (L 0))]
 (C (t 69) (S [m 2, m 19, q (oCall 42 [(L 1), (L 0)]), p 13 (oMv (s 0 0)), p 14 (oMv (L 1))]
 R)
 (S [m 18, m 2, q (oCall 43 [(L 1), (L 0)]), p 75 (oMv (L 0))]
 (C (t 75) (S [m 2, q (oCall 37 [(L 0), (i 12)]), p 13 (oMv (s 0 0)), p 14 (oMv (L 1))]
 R)
 xSkip)))))
 (Q (S [m 1, q (oLoadN 5 (t 16)), m 6, q (oCall 44 [(L 2), (L 1), (L 0)]), p 19 (oMv (L 0))]
 (S [m 19, p 86 (oEqN (L 0))]
 (C (t 86) (O [m 1, q (oLoadN 5 (t 16)), m 6, m 17, q (oCall 45 [(L 3), (L 2), (L 1), (L 0)]), p 19 (oMv (L 0))])
 xSkip)))
 (Q (S [m 19, p 93 (oNeN (L 0))]
 (C (t 93) (S [m 2, m 19, q (oCall 42 [(L 1), (L 0)]), p 13 (oMv (s 0 0)), p 14 (oMv (L 1))]
 R)
 xSkip))
 (S [m 17, p 13 (oMv (L 0)), p 14 (oMv (sC .nili))]
 R))))))))))
theorem eq_lf12 : lowAt 12 = some lf12 := by kernel_rfl
noncomputable def lf13 : LF := LF.mk [.tmp 9] (S [p 9 (oMv (sC (.bool false)))]
 (Q (S [m 1, p 12 (oEqN (L 0))]
 (C (t 12) (S [m 4, q (oEq (eqI 3) (L 0) (i 0)), p 9 (oMv (L 0))]
 R)
 xSkip))
 (S [p 10 (oNew (.cells 1 0 (.node .nil (some .nilp) .nil)))]
 (Q (S [m 4, q (oEq (eqI 3) (L 0) (i 0)), w 0, g 0 0 false (oMv (t 1)), g 0 1 false (oMkIf 99 (t 10)), g 0 2 false (oCall 46 [(L 1), (L 0)]), g 0 3 false (oNot (L 0)), q (oPick (L 4) (sC (.bool true)) (L 0)), w 0, g 0 0 false (oLoad1 (t 10)), g 0 1 false (oEq eqP2 (L 0) (sC .nilp)), p 26 (oPick (L 2) (sC (.bool true)) (L 0))]
 (C (t 26) (S [p 9 (oMv (sC (.bool false)))]
 R)
 xSkip))
 (S [q (oLoad1 (t 10)), q (oNilck (L 0)), q (oFaddr 0 (L 0)), q (oLoad1 (L 0)), m 2, q (oEq eqS (L 1) (L 0)), w 0, g 0 0 true (oLoad1 (t 10)), g 0 1 true (oNilck (L 0)), g 0 2 true (oFaddr 1 (L 0)), g 0 3 true (oLoad1 (L 0)), g 0 4 true (oMv (t 3)), g 0 5 true (oEq eqS (L 1) (L 0)), q (oPick (L 6) (L 0) (sC (.bool false))), w 0, g 0 0 true (oMv (t 1)), g 0 1 true (oMv (t 4)), g 0 2 true (oMkIf 84 (L 0)), g 0 3 true (oCall 47 [(L 2), (L 0)]), q (oPick (L 4) (L 0) (sC (.bool false))), p 9 (oMv (L 0))]
 R)))))
theorem eq_lf13 : lowAt 13 = some lf13 := by kernel_rfl
noncomputable def lf14 : LF := LF.mk [.tmp 1] (S [p 1 (oMv (sC (.bool false)))]
 (S [q (oCall 9 [(i 300)]), p 2 (oMv (L 0))]
 (Q (S [m 2, p 14 (oEq eqP2 (L 0) (sC .nilp))]
 (C (t 14) (S [p 1 (oMv (sC (.bool false)))]
 R)
 xSkip))
 (S [m 2, q (oNilck (L 0)), q (oFaddr 1 (L 0)), q (oLoad1 (L 0)), q (oBuildBs 6 [(0, (sC (.int 4 107))), (1, (sC (.int 4 101))), (2, (sC (.int 4 114))), (3, (sC (.int 4 110))), (4, (sC (.int 4 101))), (5, (sC (.int 4 108)))]), q (oMark (L 0)), q (oBuildSl 1 1 (.cons .nils .nl) [(0, (L 0))]), q (oCall 12 [(L 3), (s 1 97), (i 3), (s 1 49), (s 0 0), (L 0)]), w 0, q (oExt (L 0) 0), q (oExt (L 1) 1), p 3 (oMv (L 1)), p 4 (oMv (L 1))]
 (S [m 2, q (oNilck (L 0)), q (oFaddr 1 (L 0)), q (oLoad1 (L 0)), q (oBuildBs 6 [(0, (sC (.int 4 107))), (1, (sC (.int 4 101))), (2, (sC (.int 4 114))), (3, (sC (.int 4 110))), (4, (sC (.int 4 101))), (5, (sC (.int 4 108)))]), q (oMark (L 0)), q (oBuildSl 1 1 (.cons .nils .nl) [(0, (L 0))]), q (oCall 12 [(L 3), (s 1 97), (i 0), (s 1 50), (s 0 0), (L 0)]), w 0, q (oExt (L 0) 0), q (oExt (L 1) 1), w 1, p 6 (oMv (L 1))]
 (Q (xDr [D (m 2) 2 [], D (q (oNilck (L 0))) 2 [], D (q (oFaddr 1 (L 0))) 2 [], D (q (oLoad1 (L 0))) 1 [7], D (q (oCall 24 [])) 0 [], D (q (oCall 27 [(L 1), (L 0)])) 0 [], D (w 0) 2 [], D (q (oExt (L 0) 0)) 2 [], D (q (oExt (L 1) 1)) 2 [], D (q (oNew (.cells 6 0 (.node (.node (.node .nil (some .nils) .nil) (some (.bool false)) (.node .nil (some .nils) .nil)) (some (.str 0 0)) (.node (.node .nil (some (.str 0 0)) .nil) (some .nils) .nil))))) 0 [], D (q (oStore 6 (L 0) (L 2))) 0 [], D (p 8 (oMv (L 2))) 2 []])
 (S [m 2, q (oNilck (L 0)), q (oFaddr 1 (L 0)), q (oLoad1 (L 0)), q (oCall 26 [(L 0)]), w 0, q (oExt (L 0) 0), q (oExt (L 1) 1), p 9 (oMv (L 1)), p 10 (oMv (L 1))]
 (S [m 2, q (oNilck (L 0)), q (oFaddr 1 (L 0)), q (oLoad1 (L 0)), q (oCall 21 [(L 0), (s 6 106851864637030)]), p 11 (oMv (L 0))]
 (S [m 3, q (oEq eqS (L 0) (s 8 7001746320007327334)), w 0, g 0 0 true (oMv (t 4)), g 0 1 true (oEqN (L 0)), q (oPick (L 2) (L 0) (sC (.bool false))), w 0, g 0 0 true (oMv (t 6)), g 0 1 true (oCall 13 [(L 0), (s 5 495672716390), (s 1 97), (i 12)]), q (oPick (L 2) (L 0) (sC (.bool false))), w 0, g 0 0 true (oMv (t 8)), g 0 1 true (oEqN (L 0)), q (oPick (L 2) (L 0) (sC (.bool false))), w 0, g 0 0 true (oMv (t 10)), g 0 1 true (oEqN (L 0)), q (oPick (L 2) (L 0) (sC (.bool false))), w 0, g 0 0 true (oMv (t 9)), g 0 1 true (oEq eqS (L 0) (s 6 106851864637030)), q (oPick (L 2) (L 0) (sC (.bool false))), w 0, g 0 0 true (oMv (t 11)), g 0 1 true (oCall 13 [(L 0), (s 5 495672716390), (s 6 106851864637030), (i 35)]), q (oPick (L 2) (L 0) (sC (.bool false))), p 1 (oMv (L 0))]
 R)))))))))
theorem eq_lf14 : lowAt 14 = some lf14 := by kernel_rfl
noncomputable def lf15 : LF := LF.mk [.cellN 3 4, .tmp 4] (S [p 2 (oBox (t 1)), p 3 (oNew (.cells 4 0 (.node (.node (.node .nil (some (.int 3 0)) .nil) (some (.int 3 0)) .nil) (some (.int 3 0)) (.node .nil (some (.int 3 0)) .nil)))), p 4 (oMv (sC .nili))]
 (Q (xDr [D (q (oLoad1 (t 2))) 1 [1], D (q (oNilck (L 0))) 2 [], D (q (oFaddr 4 (L 0))) 2 [], D (q (oLoad1 (L 0))) 1 [1], D (q (oLoad1 (t 2))) 1 [1], D (q (oNilck (L 0))) 2 [], D (q (oFaddr 5 (L 0))) 2 [], D (q (oLoad1 (L 0))) 1 [1], D (q (oBuild (.cons (.int 3 0) (.cons (.int 3 0) (.cons (.int 3 0) (.cons (.int 3 0) .nl)))) [(1, 1, (L 4)), (3, 1, (L 0))])) 2 [], D (p 5 (oNew (.cells 4 0 (.node (.node (.node .nil (some (.int 3 0)) .nil) (some (.int 3 0)) .nil) (some (.int 3 0)) (.node .nil (some (.int 3 0)) .nil))))) 0 [], D (q (oStore 4 (L 0) (L 1))) 0 []])
 (S [q (oLoad1 (t 2)), q (oMkFn 49 [(t 2), (t 5)]), q (oCall 48 [(L 1), (s 4 1919905645), (s 0 0), (L 0)]), p 6 (oMv (L 0))]
 (Q (S [m 6, p 20 (oNeN (L 0))]
 (C (t 20) (S [q (oBuild (.cons (.int 3 0) (.cons (.int 3 0) (.cons (.int 3 0) (.cons (.int 3 0) .nl)))) []), m 6, q (oStore 4 (t 3) (L 1)), p 4 (oMv (L 1))]
 R)
 xSkip))
 (S [q (oLoadN 4 (t 5)), q (oStore 4 (t 3) (L 0)), p 4 (oMv (sC .nili))]
 R)))))
theorem eq_lf15 : lowAt 15 = some lf15 := by kernel_rfl
noncomputable def lf16 : LF := LF.mk [.tmp 7] (S [p 4 (oBox (t 1)), p 5 (oBox (t 2)), p 6 (oBox (t 3)), p 7 (oMv (sC .nili))]
 (S [q (oLoad1 (t 4)), q (oLoad1 (t 5)), q (oMkFn 52 [(t 4), (t 5), (t 6)]), q (oCall 48 [(L 2), (s 3 7370100), (L 1), (L 0)]), p 7 (oMv (L 0))]
 R))
theorem eq_lf16 : lowAt 16 = some lf16 := by kernel_rfl
noncomputable def lf17 : LF := LF.mk [.tmp 3] (S [p 3 (oMv (sC .nili))]
 (Q (S [m 1, p 8 (oEq eqP2 (L 0) (sC .nilp))]
 (C (t 8) (S [q (oCall 37 [(s 0 0), (i 1)]), p 3 (oMv (L 0))]
 R)
 xSkip))
 (Q (S [p 10 (oBuild (.cons (.str 0 0) (.cons (.str 0 0) .nl)) [(0, 1, (s 6 52099772539507)), (1, 1, (s 8 3415257338845160819))]), p 11 (oMv (i 0))]
 (xBlock 0 (xLoop (S [p 12 (oLt 3 Z M (t 11) (i 2))]
 (Q (C (t 12) xSkip
 (xExit 0))
 (Q (xBlock 1 (S [q (oIdxA 2 1 false (t 10) (t 11)), p 5 (oMv (L 0))]
 (S [m 1, m 5, q (oCat (L 0) (s 4 796159344)), q (oCall 55 [(L 2), (L 0)]), q (oBuildSl 3 1 (.cons (.int 3 0) .nl) [(0, (i 11)), (1, (i 14)), (2, (i 17))]), q (oCall 54 [(L 1), (L 0)]), p 6 (oMv (L 0))]
 (S [m 6, p 21 (oNeN (L 0))]
 (C (t 21) (S [m 6, q (oCall 42 [(s 0 0), (L 0)]), p 3 (oMv (L 0))]
 R)
 xSkip)))))
 (O [q (oAdd 3 M (t 11) (i 1)), p 11 (oMv (L 0))])))))))
 (S [p 3 (oMv (sC .nili))]
 R))))
theorem eq_lf17 : lowAt 17 = some lf17 := by kernel_rfl
noncomputable def lf18 : LF := LF.mk [.tmp 5, .tmp 6] (S [p 3 (oBox (t 1)), p 4 (oBox (t 2)), p 5 (oMv (sC .nils)), p 6 (oMv (sC .nili))]
 (S [p 7 (oNew (.cells 1 0 (.node .nil (some .nils) .nil)))]
 (S [q (oLoad1 (t 3)), q (oLoad1 (t 4)), q (oMkFn 56 [(t 3), (t 4), (t 7)]), q (oCall 48 [(L 2), (s 4 1818850164), (L 1), (L 0)]), p 8 (oMv (L 0))]
 (Q (S [m 8, p 14 (oNeN (L 0))]
 (C (t 14) (S [m 8, p 5 (oMv (sC .nils)), p 6 (oMv (L 1))]
 R)
 xSkip))
 (S [q (oLoad1 (t 7)), p 5 (oMv (L 0)), p 6 (oMv (sC .nili))]
 R)))))
theorem eq_lf18 : lowAt 18 = some lf18 := by kernel_rfl
noncomputable def lf19 : LF := LF.mk [.tmp 3] (S [p 3 (oMv (sC .nili))]
 (Q (S [m 1, p 8 (oEq eqP2 (L 0) (sC .nilp))]
 (C (t 8) (S [q (oCall 37 [(s 0 0), (i 1)]), p 3 (oMv (L 0))]
 R)
 xSkip))
 (Q (S [p 10 (oBuild (.cons (.str 0 0) (.cons (.str 0 0) .nl)) [(0, 1, (s 6 52099772539507)), (1, 1, (s 8 3415257338845160819))]), p 11 (oMv (i 0))]
 (xBlock 0 (xLoop (S [p 12 (oLt 3 Z M (t 11) (i 2))]
 (Q (C (t 12) xSkip
 (xExit 0))
 (Q (xBlock 1 (S [q (oIdxA 2 1 false (t 10) (t 11)), p 5 (oMv (L 0))]
 (S [m 1, m 5, q (oCall 60 [(L 1), (L 0)]), q (oBuildSl 1 1 (.cons (.int 3 0) .nl) [(0, (i 12))]), q (oCall 54 [(L 1), (L 0)]), p 6 (oMv (L 0))]
 (S [m 6, p 20 (oNeN (L 0))]
 (C (t 20) (S [m 6, q (oCall 42 [(s 0 0), (L 0)]), p 3 (oMv (L 0))]
 R)
 xSkip)))))
 (O [q (oAdd 3 M (t 11) (i 1)), p 11 (oMv (L 0))])))))))
 (S [p 3 (oMv (sC .nili))]
 R))))
theorem eq_lf19 : lowAt 19 = some lf19 := by kernel_rfl
noncomputable def lf21 : LF := LF.mk [.tmp 5] (S [p 5 (oMv (sC .nili))]
 (Q (S [m 2, q (oCall 61 [(L 0)]), w 0, q (oExt (L 0) 0), q (oExt (L 1) 1), q (oExt (L 2) 2), q (oNew (.cells 3 0 (.node (.node .nil (some (.int 3 0)) .nil) (some (.bool false)) (.node .nil (some (.int 3 0)) .nil)))), w 3, q (oStore 3 (L 1) (L 3)), p 8 (oMv (L 3))]
 (S [m 1, q (oEq eqP2 (L 0) (sC .nilp)), w 0, g 0 0 false (oMv (t 8)), g 0 1 false (oNot (L 0)), p 21 (oPick (L 2) (sC (.bool true)) (L 0))]
 (C (t 21) (S [m 2, q (oCall 37 [(L 0), (i 1)]), p 5 (oMv (L 0))]
 R)
 xSkip)))
 (S [m 1, m 2, q (oCall 64 [(L 1), (L 0)]), p 9 (oMv (L 0))]
 (Q (S [m 9, p 28 (oEqN (L 0))]
 (C (t 28) (O [m 1, m 2, q (oCat (s 9 874305878744361169711) (L 0)), q (oCall 55 [(L 2), (L 0)]), p 9 (oMv (L 0))])
 xSkip))
 (S [m 2, m 9, q (oCall 42 [(L 1), (L 0)]), p 5 (oMv (L 0))]
 R)))))
theorem eq_lf21 : lowAt 21 = some lf21 := by kernel_rfl
noncomputable def lf23 : LF := LF.mk [.cellN 7 4, .tmp 8] (S [p 7 (oNew (.cells 4 0 (.node (.node (.node .nil (some .nils) .nil) (some .nils) .nil) (some .nils) (.node .nil (some (.str 0 0)) .nil)))), p 8 (oMv (sC .nili))]
 (Q (S [m 1, q (oEq eqP2 (L 0) (sC .nilp)), w 0, g 0 0 false (oMv (t 3)), g 0 1 false (oCall 65 [(L 0)]), g 0 2 false (oNot (L 0)), p 17 (oPick (L 3) (sC (.bool true)) (L 0))]
 (C (t 17) (S [q (oBuild (.cons .nils (.cons .nils (.cons (.str 0 0) (.cons .nils .nl)))) []), m 2, q (oCall 66 [(L 0), (i 1)]), q (oStore 4 (t 7) (L 2)), p 8 (oMv (L 1))]
 R)
 xSkip))
 (S [m 1, m 2, m 3, q (oCall 67 [(L 2), (L 1), (L 0)]), w 0, q (oExt (L 0) 0), q (oExt (L 1) 1), p 9 (oNew (.cells 4 0 (.node (.node (.node .nil (some .nils) .nil) (some .nils) .nil) (some .nils) (.node .nil (some (.str 0 0)) .nil)))), q (oStore 4 (L 0) (L 2)), p 10 (oMv (L 2))]
 (Q (xDr [D (q (oLoadN 4 (t 9))) 1 [2], D (m 2) 2 [], D (m 10) 2 [], D (q (oCall 68 [(L 1), (L 0)])) 0 [], D (q (oStore 4 (t 7) (L 3))) 0 [], D (p 8 (oMv (L 1))) 2 []])
 R))))
theorem eq_lf23 : lowAt 23 = some lf23 := by kernel_rfl
noncomputable def lf24 : LF := LF.mk [.tmp 1] (S [p 1 (oMv (sC .nils))]
 (S [q (oBuild (.cons (.int 3 0) (.cons (.int 3 0) .nl)) [(0, 1, (i 0)), (1, 1, (i 60000))]), q (oBuildSl 1 2 (.cons (.int 3 0) (.cons (.int 3 0) .nl)) [(0, (L 0))]), p 1 (oMv (L 0))]
 R))
theorem eq_lf24 : lowAt 24 = some lf24 := by kernel_rfl
noncomputable def lf25 : LF := LF.mk [.tmp 3, .tmp 4] (S [p 3 (oMv (sC .nils)), p 4 (oMv (sC .nili))]
 (Q (S [m 1, p 17 (oEq eqP2 (L 0) (sC .nilp))]
 (C (t 17) (S [q (oCall 66 [(s 0 0), (i 1)]), p 3 (oMv (sC .nils)), p 4 (oMv (L 1))]
 R)
 xSkip))
 (S [m 1, q (oCall 18 [(L 0), (s 8 3415257338845160819)]), w 0, q (oExt (L 0) 0), q (oExt (L 1) 1), p 5 (oMv (L 1)), p 6 (oMv (L 1))]
 (Q (S [m 6, p 25 (oNeN (L 0))]
 (C (t 25) (S [m 6, q (oCall 68 [(s 0 0), (L 0)]), p 3 (oMv (sC .nils)), p 4 (oMv (L 1))]
 R)
 xSkip))
 (S [p 7 (oMv (sC .nils))]
 (Q (S [p 28 (oMv (t 5)), p 29 (oLenSl (L 0)), p 30 (oMv (i 0))]
 (xBlock 0 (xLoop (S [p 31 (oLt 3 Z M (t 30) (t 29))]
 (Q (C (t 31) xSkip
 (xExit 0))
 (Q (xBlock 1 (S [q (oIaddr 1 (t 28) (t 30)), q (oLoad1 (L 0)), p 9 (oMv (L 0))]
 (Q (S [m 9, q (oCall 69 [(L 0), (s 0 0)]), w 0, q (oExt (L 0) 0), q (oExt (L 1) 1), q (oNew (.cells 6 0 (.node (.node (.node .nil (some (.int 3 0)) .nil) (some (.str 0 0)) (.node .nil (some (.str 0 0)) .nil)) (some (.str 0 0)) (.node (.node .nil (some (.int 3 0)) .nil) (some (.bool false)) .nil)))), q (oStore 6 (L 0) (L 2)), p 11 (oMv (L 2))]
 (S [m 11, p 40 (oNot (L 0))]
 (C (t 40) (xExit 1)
 xSkip)))
 (S [m 1, m 9, q (oCall 70 [(L 1), (L 0)]), w 0, q (oExt (L 0) 0), q (oExt (L 1) 1), p 12 (oNew (.cells 5 0 (.node (.node (.node .nil (some .nils) .nil) (some (.str 0 0)) .nil) (some (.str 0 0)) (.node (.node .nil (some (.str 0 0)) .nil) (some (.str 0 0)) .nil)))), q (oStore 5 (L 0) (L 2)), p 13 (oMv (L 2))]
 (Q (S [m 13, p 48 (oCall 71 [(L 0)])]
 (C (t 48) (S [m 13, q (oCall 68 [(s 0 0), (L 0)]), p 3 (oMv (sC .nils)), p 4 (oMv (L 1))]
 R)
 xSkip))
 (S [m 9, q (oFaddr 0 (t 12)), q (oLoad1 (L 0)), q (oCall 69 [(L 2), (L 0)]), w 0, q (oExt (L 0) 0), q (oExt (L 1) 1), p 14 (oNew (.cells 6 0 (.node (.node (.node .nil (some (.int 3 0)) .nil) (some (.str 0 0)) (.node .nil (some (.str 0 0)) .nil)) (some (.str 0 0)) (.node (.node .nil (some (.int 3 0)) .nil) (some (.bool false)) .nil)))), q (oStore 6 (L 0) (L 2)), p 15 (oMv (L 2))]
 (S [m 15, w 0, g 0 0 true (oMv (t 13)), g 0 1 true (oEqN (L 0)), p 62 (oPick (L 2) (L 0) (sC (.bool false)))]
 (C (t 62) (O [m 7, q (oLoadN 6 (t 14)), q (oBuildSl 1 6 (.cons (.str 0 0) (.cons (.str 0 0) (.cons (.bool false) (.cons (.int 3 0) (.cons (.int 3 0) (.cons (.str 0 0) .nl)))))) [(0, (L 0))]), q (oAppend 6 72 (L 2) (L 0)), p 7 (oMv (L 0))])
 xSkip))))))))
 (O [q (oAdd 3 M (t 30) (i 1)), p 30 (oMv (L 0))])))))))
 (S [m 7, q (oCall 73 [(L 0)]), q (oCall 72 [(L 0)]), p 3 (oMv (L 0)), p 4 (oMv (sC .nili))]
 R)))))))
theorem eq_lf25 : lowAt 25 = some lf25 := by kernel_rfl
noncomputable def lf26 : LF := LF.mk [.tmp 3, .tmp 4] (S [p 3 (oMv (s 0 0)), p 4 (oMv (sC .nili))]
 (Q (S [m 1, p 13 (oEq eqP2 (L 0) (sC .nilp))]
 (C (t 13) (S [q (oCall 37 [(s 0 0), (i 1)]), p 3 (oMv (s 0 0)), p 4 (oMv (L 1))]
 R)
 xSkip))
 (S [m 1, q (oCall 74 [(L 0)]), w 0, q (oExt (L 0) 0), q (oExt (L 1) 1), p 5 (oMv (L 1)), p 6 (oMv (L 1))]
 (Q (S [m 6, p 21 (oNeN (L 0))]
 (C (t 21) (S [m 6, q (oCall 42 [(s 0 0), (L 0)]), p 3 (oMv (s 0 0)), p 4 (oMv (L 1))]
 R)
 xSkip))
 (S [m 5, q (oCall 61 [(L 0)]), w 0, q (oExt (L 0) 0), q (oExt (L 1) 1), q (oExt (L 2) 2), q (oNew (.cells 3 0 (.node (.node .nil (some (.int 3 0)) .nil) (some (.bool false)) (.node .nil (some (.int 3 0)) .nil)))), p 7 (oMv (L 3)), q (oStore 3 (L 1) (L 3)), w 3]
 (S [m 7, q (oCall 75 []), q (oCall 39 [(L 1), (L 0)]), p 10 (oMv (L 0))]
 (Q (S [m 1, m 5, m 10, q (oCall 76 [(L 2), (L 1), (L 0)]), p 11 (oMv (L 0))]
 (S [m 11, p 38 (oNeN (L 0))]
 (C (t 38) (S [m 11, q (oCall 42 [(s 0 0), (L 0)]), p 3 (oMv (s 0 0)), p 4 (oMv (L 1))]
 R)
 xSkip)))
 (S [m 10, p 3 (oMv (L 0)), p 4 (oMv (sC .nili))]
 R))))))))
theorem eq_lf26 : lowAt 26 = some lf26 := by kernel_rfl
noncomputable def lf27 : LF := LF.mk [.cellN 5 6, .tmp 6] (S [p 5 (oNew (.cells 6 0 (.node (.node (.node .nil (some .nils) .nil) (some (.bool false)) (.node .nil (some .nils) .nil)) (some (.str 0 0)) (.node (.node .nil (some (.str 0 0)) .nil) (some .nils) .nil)))), p 6 (oMv (sC .nili))]
 (Q (S [m 1, q (oEq eqP2 (L 0) (sC .nilp)), w 0, g 0 0 false (oMv (t 2)), g 0 1 false (oCall 65 [(L 0)]), g 0 2 false (oNot (L 0)), p 20 (oPick (L 3) (sC (.bool true)) (L 0))]
 (C (t 20) (S [q (oBuild (.cons (.str 0 0) (.cons (.bool false) (.cons .nils (.cons .nils (.cons (.str 0 0) (.cons .nils .nl)))))) []), q (oCall 66 [(s 0 0), (i 1)]), q (oStore 6 (t 5) (L 1)), p 6 (oMv (L 1))]
 R)
 xSkip))
 (S [m 1, q (oCall 25 [(L 0)]), w 0, q (oExt (L 0) 0), q (oExt (L 1) 1), p 7 (oMv (L 1)), p 8 (oMv (L 1))]
 (Q (S [m 8, p 29 (oNeN (L 0))]
 (C (t 29) (S [q (oBuild (.cons (.str 0 0) (.cons (.bool false) (.cons .nils (.cons .nils (.cons (.str 0 0) (.cons .nils .nl)))))) []), m 8, q (oCall 68 [(s 0 0), (L 0)]), q (oStore 6 (t 5) (L 2)), p 6 (oMv (L 1))]
 R)
 xSkip))
 (Q (S [p 33 (oMv (t 7)), p 34 (oLenSl (L 0)), p 35 (oMv (i 0))]
 (xBlock 0 (xLoop (S [p 36 (oLt 3 Z M (t 35) (t 34))]
 (Q (C (t 36) xSkip
 (xExit 0))
 (Q (xBlock 1 (S [q (oIaddr 6 (t 33) (t 35)), q (oLoadN 6 (L 0)), p 10 (oNew (.cells 6 0 (.node (.node (.node .nil (some (.int 3 0)) .nil) (some (.str 0 0)) (.node .nil (some (.str 0 0)) .nil)) (some (.str 0 0)) (.node (.node .nil (some (.int 3 0)) .nil) (some (.bool false)) .nil)))), q (oStore 6 (L 0) (L 1))]
 (S [m 1, q (oLoadN 6 (t 10)), m 2, q (oCall 77 [(L 2), (L 1), (L 0)]), w 0, q (oExt (L 0) 0), q (oExt (L 1) 1), q (oExt (L 2) 2), p 11 (oNew (.cells 6 0 (.node (.node (.node .nil (some .nils) .nil) (some (.bool false)) (.node .nil (some .nils) .nil)) (some (.str 0 0)) (.node (.node .nil (some (.str 0 0)) .nil) (some .nils) .nil)))), q (oStore 6 (L 0) (L 3)), p 12 (oMv (L 3)), p 13 (oMv (L 3))]
 (S [m 12, w 0, g 0 0 false (oMv (t 13)), g 0 1 false (oNeN (L 0)), p 51 (oPick (L 2) (sC (.bool true)) (L 0))]
 (C (t 51) (Q (xDr [D (q (oLoadN 6 (t 11))) 1 [2], D (m 13) 2 [], D (q (oCall 68 [(s 0 0), (L 0)])) 0 [], D (q (oStore 6 (t 5) (L 2))) 0 [], D (p 6 (oMv (L 1))) 2 []])
 R)
 xSkip)))))
 (O [q (oAdd 3 M (t 35) (i 1)), p 35 (oMv (L 0))])))))))
 (S [q (oBuild (.cons (.str 0 0) (.cons (.bool false) (.cons .nils (.cons .nils (.cons (.str 0 0) (.cons .nils .nl)))))) []), q (oCall 66 [(s 0 0), (i 34)]), q (oStore 6 (t 5) (L 1)), p 6 (oMv (L 1))]
 R))))))
theorem eq_lf27 : lowAt 27 = some lf27 := by kernel_rfl
noncomputable def lf33 : LF := LF.mk [.tmp 7] (S [p 7 (oMv (sC .nilp))]
 (S [m 1, q (oCall 81 [(L 0)]), w 0, q (oExt (L 0) 0), q (oExt (L 1) 1), p 8 (oMv (L 1)), p 9 (oMv (L 1))]
 (Q (S [m 8, q (oEq eqP2 (L 0) (sC .nilp)), w 0, g 0 0 false (oMv (t 9)), g 0 1 false (oNeN (L 0)), p 23 (oPick (L 2) (sC (.bool true)) (L 0))]
 (C (t 23) (S [p 7 (oMv (sC .nilp))]
 R)
 xSkip))
 (S [m 8, m 2, m 3, q (oCall 82 [(L 2), (L 1), (L 0)]), w 0, q (oExt (L 0) 0), q (oExt (L 1) 1), p 10 (oMv (L 1)), p 11 (oMv (L 1))]
 (S [m 1, m 2, m 3, q (oCall 83 [(L 2), (L 1), (L 0)]), p 12 (oMv (L 0))]
 (Q (S [m 10, q (oEq eqP2 (L 0) (sC .nilp)), w 0, g 0 0 false (oMv (t 12)), g 0 1 false (oEq eqP2 (L 0) (sC .nilp)), q (oPick (L 2) (sC (.bool true)) (L 0)), w 0, g 0 0 false (oMv (t 11)), g 0 1 false (oNeN (L 0)), p 44 (oPick (L 2) (sC (.bool true)) (L 0))]
 (C (t 44) (S [p 7 (oMv (sC .nilp))]
 R)
 xSkip))
 (S [m 8, m 10, m 12, q (oBuild (.cons .nilp (.cons .nilp (.cons .nilp .nl))) [(0, 1, (L 2)), (1, 1, (L 1)), (2, 1, (L 0))]), q (oBox (L 0)), p 7 (oMv (L 0))]
 R)))))))
theorem eq_lf33 : lowAt 33 = some lf33 := by kernel_rfl
noncomputable def lf34 : LF := LF.mk [.tmp 3] (S [p 3 (oMv (i 0))]
 (S [q (oBuildSl 2 1 (.cons (.str 0 0) .nl) [(0, (s 6 52099772539507)), (1, (s 8 3415257338845160819))]), p 4 (oMv (L 0))]
 (Q (S [p 5 (oMv (i 0))]
 (xBlock 0 (xLoop (Q (S [m 5, p 9 (oLt 3 Z M (L 0) (i 2))]
 (C (t 9) xSkip
 (xExit 0)))
 (Q (xBlock 1 (S [m 1, m 4, m 5, q (oIaddr 1 (L 1) (L 0)), q (oLoad1 (L 0)), q (oCall 84 [(L 4), (L 0), (sC (.bool true))]), p 6 (oMv (L 0))]
 (S [m 6, q (oNe (eqI 3) (L 0) (i 0)), w 0, g 0 0 true (oMv (t 6)), g 0 1 true (oNe (eqI 3) (L 0) (i 12)), p 23 (oPick (L 2) (L 0) (sC (.bool false)))]
 (C (t 23) (S [m 6, p 3 (oMv (L 0))]
 R)
 xSkip))))
 (O [m 5, q (oAdd 3 M (L 0) (i 1)), p 5 (oMv (L 0))]))))))
 (S [p 3 (oMv (i 0))]
 R))))
theorem eq_lf34 : lowAt 34 = some lf34 := by kernel_rfl
noncomputable def lf36 : LF := LF.mk [.tmp 5] (S [p 4 (oBox (t 2)), p 5 (oMv (sC (.bool false)))]
 (Q (S [p 6 (oMv (sC (.bool true)))]
 (xBlock 0 (xLoop (Q (S [p 7 (oMv (t 6))]
 (C (t 7) xSkip
 (xExit 0)))
 (Q (xBlock 1 (S [m 1, q (oLoadN 3 (t 4)), q (oCall 86 [(L 1), (L 0)]), p 16 (oNot (L 0))]
 (C (t 16) (S [p 5 (oMv (sC (.bool false)))]
 R)
 xSkip)))
 (O [q (oLoadN 3 (t 4)), q (oCall 85 [(L 0)]), w 0, q (oExt (L 0) 0), q (oExt (L 1) 1), q (oStore 3 (t 4) (L 1)), p 6 (oMv (L 1))]))))))
 (S [p 5 (oMv (sC (.bool true)))]
 R)))
theorem eq_lf36 : lowAt 36 = some lf36 := by kernel_rfl
noncomputable def lf37 : LF := LF.mk [.tmp 5] (S [p 5 (oMv (sC .nili))]
 (S [m 1, m 2, q (oCall 87 [(s 5 495672716390), (L 1), (L 0)]), p 5 (oMv (L 0))]
 R))
theorem eq_lf37 : lowAt 37 = some lf37 := by kernel_rfl
noncomputable def lf38 : LF := LF.mk [.cellN 7 5] (S [p 7 (oNew (.cells 5 0 (.node (.node (.node .nil (some .nils) .nil) (some (.str 0 0)) .nil) (some (.str 0 0)) (.node (.node .nil (some (.str 0 0)) .nil) (some (.str 0 0)) .nil))))]
 (S [p 8 (oMv (sC .nils))]
 (Q (S [p 11 (oMv (t 3)), p 12 (oLenSl (L 0)), p 13 (oMv (i 0))]
 (xBlock 0 (xLoop (S [p 14 (oLt 3 Z M (t 13) (t 12))]
 (Q (C (t 14) xSkip
 (xExit 0))
 (Q (xBlock 1 (S [q (oIaddr 1 (t 11) (t 13)), q (oLoad1 (L 0)), p 10 (oMv (L 0))]
 (O [m 8, m 10, q (oCall 88 [(L 0)]), m 10, q (oCall 88 [(L 0)]), q (oBuild (.cons (.str 0 0) (.cons (.str 0 0) .nl)) [(0, 1, (L 2)), (1, 1, (L 0))]), q (oBuildSl 1 2 (.cons (.str 0 0) (.cons (.str 0 0) .nl)) [(0, (L 0))]), q (oAppend 2 32 (L 6) (L 0)), p 8 (oMv (L 0))])))
 (O [q (oAdd 3 M (t 13) (i 1)), p 13 (oMv (L 0))])))))))
 (Q (xDr [D (m 1) 2 [], D (m 8) 2 [], D (q (oIaddr 2 (L 0) (i 0))) 2 [], D (q (oLoadN 2 (L 0))) 1 [], D (m 8) 2 [], D (q (oSlice 2 (L 0) (some (i 1)) none none)) 1 [], D (m 2) 2 [], D (q (oBuild (.cons (.str 0 0) (.cons (.str 0 0) (.cons (.str 0 0) (.cons .nils (.cons (.str 0 0) .nl))))) [(0, 1, (L 6)), (1, 2, (L 3)), (3, 1, (L 1)), (4, 1, (L 0))])) 2 [], D (q (oStore 5 (t 7) (L 0))) 0 []])
 R))))
theorem eq_lf38 : lowAt 38 = some lf38 := by kernel_rfl
noncomputable def lf39 : LF := LF.mk [.tmp 5] (S [p 4 (oBox (t 2)), p 5 (oMv (s 0 0))]
 (Q (S [q (oFaddr 0 (t 4)), p 7 (oLoad1 (L 0))]
 (C (t 7) (S [m 1, q (oFaddr 1 (t 4)), q (oLoad1 (L 0)), q (oCall 89 [(L 0)]), q (oCat (s 1 43) (L 0)), q (oCat (L 4) (L 0)), p 1 (oMv (L 0))]
 (S [q (oFaddr 2 (t 4)), q (oLoad1 (L 0)), p 16 (oNe (eqI 3) (L 0) (i 0))]
 (C (t 16) (O [m 1, q (oFaddr 2 (t 4)), q (oLoad1 (L 0)), q (oCall 89 [(L 0)]), q (oCat (s 1 45) (L 0)), q (oCat (L 4) (L 0)), p 1 (oMv (L 0))])
 xSkip)))
 xSkip))
 (S [m 1, q (oCat (L 0) (s 5 199236742758)), p 5 (oMv (L 0))]
 R)))
theorem eq_lf39 : lowAt 39 = some lf39 := by kernel_rfl
noncomputable def lf40 : LF := LF.mk [.tmp 3] (S [p 2 (oBox (t 1)), p 3 (oMv (sC (.bool false)))]
 (S [q (oFaddr 0 (t 2)), q (oLoad1 (L 0)), q (oCall 90 [(L 0), (i 1), (i 40), (sC (.int 4 33))]), w 0, g 0 0 true (oFaddr 3 (t 2)), g 0 1 true (oLoad1 (L 0)), g 0 2 true (oLenSl (L 0)), g 0 3 true (oLe 3 Z M (L 0) (i 8)), q (oPick (L 4) (L 0) (sC (.bool false))), w 0, g 0 0 true (oFaddr 4 (t 2)), g 0 1 true (oLoad1 (L 0)), g 0 2 true (oCall 91 [(L 0)]), q (oPick (L 3) (L 0) (sC (.bool false))), w 0, g 0 0 true (oLoadN 5 (t 2)), g 0 1 true (oCall 93 [(L 0)]), g 0 2 true (oCall 92 [(L 0), (sC (.func 94 .nl))]), g 0 3 true (oNot (L 0)), q (oPick (L 4) (L 0) (sC (.bool false))), p 3 (oMv (L 0))]
 R))
theorem eq_lf40 : lowAt 40 = some lf40 := by kernel_rfl
noncomputable def lf41 : LF := LF.mk [.tmp 3, .tmp 4] (S [p 3 (oMv (sC .nils)), p 4 (oMv (sC .nili))]
 (S [m 1, q (oCall 18 [(L 0), (s 8 3415257338845160819)]), w 0, q (oExt (L 0) 0), q (oExt (L 1) 1), p 5 (oMv (L 1)), p 6 (oMv (L 1))]
 (Q (S [m 6, p 19 (oNeN (L 0))]
 (C (t 19) (S [m 6, p 3 (oMv (sC .nils)), p 4 (oMv (L 1))]
 R)
 xSkip))
 (S [p 7 (oMv (sC .nils))]
 (Q (S [p 21 (oMv (t 5)), p 22 (oLenSl (L 0)), p 23 (oMv (i 0))]
 (xBlock 0 (xLoop (S [p 24 (oLt 3 Z M (t 23) (t 22))]
 (Q (C (t 24) xSkip
 (xExit 0))
 (Q (xBlock 1 (S [q (oIaddr 1 (t 21) (t 23)), q (oLoad1 (L 0)), p 9 (oMv (L 0))]
 (S [m 9, q (oCall 61 [(L 0)]), w 0, q (oExt (L 0) 0), q (oExt (L 1) 1), q (oExt (L 2) 2), q (oNew (.cells 3 0 (.node (.node .nil (some (.int 3 0)) .nil) (some (.bool false)) (.node .nil (some (.int 3 0)) .nil)))), p 10 (oMv (L 3)), q (oStore 3 (L 1) (L 3)), p 12 (oMv (L 3))]
 (S [p 33 (oMv (t 12))]
 (C (t 33) (O [m 7, m 10, q (oBuildSl 1 1 (.cons (.str 0 0) .nl) [(0, (L 0))]), q (oAppend 1 16 (L 2) (L 0)), p 7 (oMv (L 0))])
 xSkip)))))
 (O [q (oAdd 3 M (t 23) (i 1)), p 23 (oMv (L 0))])))))))
 (S [m 7, p 3 (oMv (L 0)), p 4 (oMv (sC .nili))]
 R))))))
theorem eq_lf41 : lowAt 41 = some lf41 := by kernel_rfl
noncomputable def lf42 : LF := LF.mk [.tmp 5] (S [p 5 (oMv (sC .nili))]
 (S [m 1, m 2, q (oCall 96 [(s 5 495672716390), (L 1), (L 0)]), p 5 (oMv (L 0))]
 R))
theorem eq_lf42 : lowAt 42 = some lf42 := by kernel_rfl
noncomputable def lf43 : LF := LF.mk [.tmp 5] (S [p 5 (oMv (sC (.bool false)))]
 (S [m 1, m 2, q (oCall 97 [(L 1), (L 0)]), q (oLe 3 Z M (i 0) (L 0)), p 5 (oMv (L 0))]
 R))
theorem eq_lf43 : lowAt 43 = some lf43 := by kernel_rfl
noncomputable def lf44 : LF := LF.mk [.tmp 7] (S [p 5 (oBox (t 2)), p 7 (oMv (sC .nili))]
 (S [m 1, q (oLoadN 5 (t 5)), m 3, q (oCall 98 [(L 2), (L 1), (L 0)]), w 0, q (oExt (L 0) 0), q (oExt (L 1) 1), p 8 (oMv (L 1)), p 9 (oMv (L 1))]
 (Q (S [m 9, p 19 (oNeN (L 0))]
 (C (t 19) (S [m 9, p 7 (oMv (L 0))]
 R)
 xSkip))
 (S [m 1, q (oCall 15 [(L 0)]), w 0, q (oExt (L 0) 0), q (oExt (L 1) 1), p 10 (oNew (.cells 4 0 (.node (.node (.node .nil (some (.int 3 0)) .nil) (some (.int 3 0)) .nil) (some (.int 3 0)) (.node .nil (some (.int 3 0)) .nil)))), q (oStore 4 (L 0) (L 2)), p 9 (oMv (L 2))]
 (Q (S [m 9, q (oEqN (L 0)), w 0, g 0 0 true (oFaddr 0 (t 10)), g 0 1 true (oLoad1 (L 0)), g 0 2 true (oFaddr 1 (t 10)), g 0 3 true (oLoad1 (L 0)), g 0 4 true (oMv (t 8)), g 0 5 true (oCall 99 [(L 3), (L 1), (L 0), (sC (.bool false))]), g 0 6 true (oNot (L 0)), p 36 (oPick (L 7) (L 0) (sC (.bool false)))]
 (C (t 36) (O [q (oMkIf 84 (i 15)), p 9 (oMv (L 0))])
 xSkip))
 (S [m 9, p 7 (oMv (L 0))]
 R))))))
theorem eq_lf44 : lowAt 44 = some lf44 := by kernel_rfl
noncomputable def lf45 : LF := LF.mk [.tmp 9] (S [p 6 (oBox (t 2)), p 9 (oMv (sC .nili))]
 (Q (S [p 16 (oMv (t 3)), p 17 (oLenSl (L 0)), p 18 (oMv (i 0))]
 (xBlock 0 (xLoop (S [p 19 (oLt 3 Z M (t 18) (t 17))]
 (Q (C (t 19) xSkip
 (xExit 0))
 (Q (xBlock 1 (S [q (oIaddr 1 (t 16) (t 18)), q (oLoad1 (L 0)), p 11 (oMv (L 0))]
 (S [m 1, m 11, q (oCall 100 [(L 1), (L 0)]), w 0, q (oExt (L 0) 0), q (oExt (L 1) 1), q (oNew (.cells 2 0 (.node (.node .nil (some (.str 0 0)) .nil) (some (.str 0 0)) .nil))), q (oStore 2 (L 0) (L 2)), p 13 (oMv (L 2))]
 (S [m 13, p 29 (oNeN (L 0))]
 (C (t 29) (S [m 13, p 9 (oMv (L 0))]
 R)
 xSkip)))))
 (O [q (oAdd 3 M (t 18) (i 1)), p 18 (oMv (L 0))])))))))
 (S [q (oLoadN 5 (t 6)), q (oCall 101 [(L 0)]), w 0, q (oExt (L 0) 0), q (oExt (L 1) 1), p 14 (oMv (L 1)), p 15 (oMv (L 1))]
 (Q (S [m 15, p 38 (oEqN (L 0))]
 (C (t 38) (O [m 1, m 14, q (oStrToBs (L 0)), q (oCall 16 [(L 2), (s 12 14668418577763956126261734768), (L 0)]), p 15 (oMv (L 0))])
 xSkip))
 (Q (S [m 15, p 44 (oEqN (L 0))]
 (C (t 44) (O [m 1, m 4, q (oCat (s 9 874305878744361169711) (L 0)), q (oCall 102 [(L 2), (s 12 14668418577763956126261734768), (L 0)]), p 15 (oMv (L 0))])
 xSkip))
 (S [m 15, p 9 (oMv (L 0))]
 R))))))
theorem eq_lf45 : lowAt 45 = some lf45 := by kernel_rfl
noncomputable def lf46 : LF := LF.mk [.tmp 5] (S [p 5 (oMv (sC (.bool false)))]
 (Q (S [m 1, p 10 (oEqN (L 0))]
 (C (t 10) (S [p 5 (oMv (sC (.bool false)))]
 R)
 xSkip))
 (Q (S [m 2, p 12 (oEqN (L 0))]
 (C (t 12) (O [q (oMkIf 9 (s 28 10683622228909576807552248392539607349499458547189990275552788769132)), q (oBad)])
 xSkip))
 (S [m 2, q (oCall 103 [(L 0)]), p 6 (oNew (.cells 3 0 (.node (.node .nil (some .nilp) .nil) (some .nilp) (.node .nil (some (.int 7 0)) .nil)))), q (oStore 3 (L 0) (L 1))]
 (S [q (oLoadN 3 (t 6)), q (oCall 104 [(L 0)]), p 7 (oMv (L 0))]
 (Q (S [m 7, q (oInvoke [(270, 503)] [(17, 503), (105, 128), (166, 513)] (L 0) []), q (oNe (eqI 4) (L 0) (sC (.int 4 22))), w 0, g 0 0 false (oLoadN 3 (t 6)), g 0 1 false (oCall 105 [(L 0)]), p 24 (oPick (L 2) (sC (.bool true)) (L 0))]
 (C (t 24) (O [q (oMkIf 9 (s 40 846443758193054943310037450639292695111061687107491132945009991384946280646560568472783482545522)), q (oBad)])
 xSkip))
 (S [m 7, q (oInvoke [] [(17, 502), (166, 188), (270, 519)] (L 0) []), p 8 (oMv (L 0))]
 (Q (S [m 8, q (oInvoke [(270, 503)] [(17, 503), (105, 128), (166, 513)] (L 0) []), q (oNe (eqI 4) (L 0) (sC (.int 4 20))), w 0, g 0 0 true (oMv (t 8)), g 0 1 true (oLoad1 (sC (.ptr 0 0))), g 0 2 true (oInvoke [] [(270, 520)] (L 1) [(L 0)]), g 0 3 true (oNot (L 0)), p 36 (oPick (L 4) (L 0) (sC (.bool false)))]
 (C (t 36) (O [q (oMkIf 9 (s 52 67062183633304022938160546416220978774736681208526410179932650569056792298506057684263117426783871612847569104801251468668786)), q (oBad)])
 xSkip))
 (S [m 1, m 2, q (oLoadN 3 (t 6)), m 8, q (oCall 106 [(L 3), (L 2), (L 1), (L 0)]), p 5 (oMv (L 0))]
 R)))))))))
theorem eq_lf46 : lowAt 46 = some lf46 := by kernel_rfl
noncomputable def lf47 : LF := LF.mk [.tmp 5] (S [p 5 (oMv (sC (.bool false)))]
 (Q (S [m 1, q (oEqN (L 0)), w 0, g 0 0 false (oMv (t 2)), g 0 1 false (oEqN (L 0)), p 12 (oPick (L 2) (sC (.bool true)) (L 0))]
 (C (t 12) (S [m 1, m 2, q (oEq (eqIfT tbT) (L 1) (L 0)), p 5 (oMv (L 0))]
 R)
 xSkip))
 (S [m 2, q (oCall 107 [(L 0)]), q (oInvoke [] [(270, 518)] (L 0) []), p 6 (oMv (L 0))]
 (S [m 1, m 2, m 6, q (oCall 108 [(L 2), (L 1), (L 0)]), p 5 (oMv (L 0))]
 R))))
theorem eq_lf47 : lowAt 47 = some lf47 := by kernel_rfl
noncomputable def lf48 : LF := LF.mk [.tmp 9] (S [p 9 (oMv (sC .nili))]
 (S [m 4, q (oCallV (L 0) []), p 10 (oMv (L 0))]
 (Q (S [m 10, p 14 (oEqN (L 0))]
 (C (t 14) (O [m 1, q (oNilck (L 0)), q (oFaddr 0 (L 0)), q (oLoad1 (L 0)), q (oCall 109 [(L 0)]), p 10 (oMv (L 0))])
 xSkip))
 (Q (S [m 10, p 21 (oNeN (L 0))]
 (C (t 21) (O [m 1, q (oNilck (L 0)), q (oFaddr 0 (L 0)), q (oLoad1 (L 0)), q (oCall 110 [(L 0)])])
 xSkip))
 (S [m 2, m 3, m 10, q (oCall 96 [(L 2), (L 1), (L 0)]), p 9 (oMv (L 0))]
 R)))))
theorem eq_lf48 : lowAt 48 = some lf48 := by kernel_rfl
noncomputable def lf49 : LF := LF.mk [.tmp 3] (S [p 3 (oMv (sC .nili))]
 (S [p 4 (oMv (sC .nili))]
 (Q (S [q (oLoad1 (t 1)), q (oNilck (L 0)), q (oFaddr 1 (L 0)), q (oLoad1 (L 0)), q (oCall 50 [(L 0)]), w 0, q (oExt (L 0) 0), q (oExt (L 1) 1), q (oFaddr 0 (t 2)), q (oStore 1 (L 0) (L 2)), p 4 (oMv (L 2))]
 (S [m 4, p 15 (oEqN (L 0))]
 (C (t 15) (O [q (oLoad1 (t 1)), q (oNilck (L 0)), q (oFaddr 2 (L 0)), q (oLoad1 (L 0)), q (oCall 51 [(L 0)]), w 0, q (oExt (L 0) 0), q (oExt (L 1) 1), q (oFaddr 2 (t 2)), q (oStore 1 (L 0) (L 2)), p 4 (oMv (L 2))])
 xSkip)))
 (S [m 4, p 3 (oMv (L 0))]
 R))))
theorem eq_lf49 : lowAt 49 = some lf49 := by kernel_rfl
noncomputable def lf50 : LF := LF.mk [.tmp 3, .tmp 4] (S [p 3 (oMv (i 0)), p 4 (oMv (sC .nili))]
 (S [m 1, q (oCall 111 [(L 0)]), w 0, q (oExt (L 0) 0), q (oExt (L 1) 1), p 5 (oMv (L 1)), p 6 (oMv (L 1))]
 (Q (S [m 6, p 13 (oNeN (L 0))]
 (C (t 13) (S [m 6, p 3 (oMv (i 0)), p 4 (oMv (L 1))]
 R)
 xSkip))
 (S [m 1, q (oNilck (L 0)), q (oFaddr 3 (L 0)), q (oLoad1 (L 0)), m 5, q (oLenSl (L 0)), q (oSub 3 M (L 2) (L 0)), p 3 (oMv (L 0)), p 4 (oMv (sC .nili))]
 R))))
theorem eq_lf50 : lowAt 50 = some lf50 := by kernel_rfl
noncomputable def lf51 : LF := LF.mk [.tmp 3, .tmp 4] (S [p 3 (oMv (i 0)), p 4 (oMv (sC .nili))]
 (S [p 5 (oMv (i 0))]
 (Q (S [p 6 (oMv (i 1))]
 (xBlock 0 (xLoop (Q (S [m 6, m 1, q (oNilck (L 0)), q (oFaddr 3 (L 0)), q (oLoad1 (L 0)), p 14 (oLe 3 Z M (L 4) (L 0))]
 (C (t 14) xSkip
 (xExit 0)))
 (Q (xBlock 1 (S [m 1, m 6, q (oCall 112 [(L 1), (L 0)]), w 0, q (oExt (L 0) 0), q (oExt (L 1) 1), p 7 (oNew (.cells 4 0 (.node (.node (.node .nil (some (.int 3 0)) .nil) (some (.int 3 0)) .nil) (some (.int 3 0)) (.node .nil (some .nils) .nil)))), q (oStore 4 (L 0) (L 2)), p 8 (oMv (L 2))]
 (Q (S [m 8, p 24 (oNeN (L 0))]
 (C (t 24) (S [m 8, q (oCall 96 [(s 5 452824360037), (s 0 0), (L 0)]), p 3 (oMv (i 0)), p 4 (oMv (L 1))]
 R)
 xSkip))
 (S [q (oFaddr 0 (t 7)), q (oLoad1 (L 0)), p 29 (oEq (eqI 3) (L 0) (i 0))]
 (C (t 29) (O [m 5, q (oAdd 3 M (L 0) (i 1)), p 5 (oMv (L 0))])
 xSkip)))))
 (O [m 6, q (oAdd 3 M (L 0) (i 1)), p 6 (oMv (L 0))]))))))
 (S [m 5, p 3 (oMv (L 0)), p 4 (oMv (sC .nili))]
 R))))
theorem eq_lf51 : lowAt 51 = some lf51 := by kernel_rfl
noncomputable def lf52 : LF := LF.mk [.tmp 4] (S [p 4 (oMv (sC .nili))]
 (S [q (oLoad1 (t 1)), q (oLoad1 (t 2)), q (oLoad1 (t 3)), q (oCall 53 [(L 2), (L 1), (L 0), (sC (.bool false))]), p 4 (oMv (L 0))]
 R))
theorem eq_lf52 : lowAt 52 = some lf52 := by kernel_rfl
noncomputable def lf53 : LF := LF.mk [.tmp 9] (S [p 9 (oMv (sC .nili))]
 (S [m 2, q (oCall 113 [(L 0)]), w 0, q (oExt (L 0) 0), q (oExt (L 1) 1), q (oExt (L 2) 2), w 2, w 2, p 12 (oMv (L 2))]
 (Q (xBlock 0 (S [m 2, q (oEq eqS (L 0) (s 1 47)), p 24 (oMv (L 0))]
 (C (t 24) (S [q (oMkIf 84 (i 13)), p 9 (oMv (L 0))]
 R)
 (S [m 12, q (oNot (L 0)), p 28 (oMv (L 0))]
 (C (t 28) (S [q (oMkIf 84 (i 10)), p 9 (oMv (L 0))]
 R)
 (S [m 3, q (oLenSl (L 0)), q (oLt 3 Z M (i 4000) (L 0)), p 32 (oMv (L 0))]
 (C (t 32) (S [q (oMkIf 84 (i 5)), p 9 (oMv (L 0))]
 R)
 xSkip)))))))
 (S [m 1, m 2, q (oCall 114 [(L 1), (L 0), (i 13)]), w 0, q (oExt (L 0) 0), q (oExt (L 1) 1), q (oExt (L 2) 2), p 13 (oMv (L 2)), p 14 (oMv (L 2)), p 15 (oMv (L 2))]
 (Q (S [m 15, p 45 (oNeN (L 0))]
 (C (t 45) (S [m 15, p 9 (oMv (L 0))]
 R)
 xSkip))
 (S [m 13, m 14, q (oCall 115 [(L 1), (L 0)]), w 0, q (oExt (L 0) 0), q (oExt (L 1) 1), q (oExt (L 2) 2), p 16 (oMv (L 2)), p 17 (oMv (L 2)), p 15 (oMv (L 2))]
 (Q (xBlock 1 (S [m 15, q (oNeN (L 0)), p 64 (oMv (L 0))]
 (C (t 64) (S [m 15, p 9 (oMv (L 0))]
 R)
 (S [m 17, p 68 (oMv (L 0))]
 (C (t 68) (O [m 1, m 16, m 3, q (oLenSl (L 0)), m 4, q (oCall 116 [(L 4), (L 3), (L 1), (L 0)]), p 15 (oMv (L 0))])
 (O [m 1, m 13, m 14, m 3, q (oLenSl (L 0)), m 4, q (oCall 117 [(L 5), (L 4), (L 3), (i 1), (L 1), (L 0)]), w 0, q (oExt (L 0) 0), q (oExt (L 1) 1), p 16 (oMv (L 1)), p 15 (oMv (L 1))]))))))
 (Q (S [m 15, p 77 (oNeN (L 0))]
 (C (t 77) (S [m 15, p 9 (oMv (L 0))]
 R)
 xSkip))
 (S [m 1, m 16, m 3, q (oCall 118 [(L 2), (L 1), (L 0)]), p 9 (oMv (L 0))]
 R)))))))))
theorem eq_lf53 : lowAt 53 = some lf53 := by kernel_rfl
noncomputable def lf54 : LF := LF.mk [.tmp 5] (S [p 3 (oBox (t 1)), p 5 (oMv (sC .nili))]
 (Q (S [m 2, q (oMkFn 120 [(t 3)]), p 8 (oCall 119 [(L 1), (L 0)])]
 (C (t 8) (S [p 5 (oMv (sC .nili))]
 R)
 xSkip))
 (S [q (oLoad1 (t 3)), p 5 (oMv (L 0))]
 R)))
theorem eq_lf54 : lowAt 54 = some lf54 := by kernel_rfl
noncomputable def lf55 : LF := LF.mk [.tmp 5] (S [p 3 (oBox (t 1)), p 4 (oBox (t 2)), p 5 (oMv (sC .nili))]
 (S [q (oLoad1 (t 3)), q (oLoad1 (t 4)), q (oMkFn 121 [(t 3), (t 4)]), q (oCall 48 [(L 2), (s 6 125779953284709), (L 1), (L 0)]), p 5 (oMv (L 0))]
 R))
theorem eq_lf55 : lowAt 55 = some lf55 := by kernel_rfl
noncomputable def lf56 : LF := LF.mk [.tmp 4] (S [p 4 (oMv (sC .nili))]
 (S [q (oLoad1 (t 1)), q (oLoad1 (t 2)), q (oCall 57 [(L 1), (L 0)]), w 0, q (oExt (L 0) 0), q (oExt (L 1) 1), p 5 (oMv (L 1)), p 6 (oMv (L 1))]
 (Q (S [m 6, p 15 (oNeN (L 0))]
 (C (t 15) (S [m 6, p 4 (oMv (L 0))]
 R)
 xSkip))
 (S [q (oLoad1 (t 1)), q (oNilck (L 0)), q (oFaddr 2 (L 0)), q (oLoad1 (L 0)), m 5, q (oCall 58 [(L 1), (L 0)]), w 0, q (oExt (L 0) 0), q (oExt (L 1) 1), p 7 (oMv (L 1)), p 6 (oMv (L 1))]
 (Q (S [m 6, p 27 (oEqN (L 0))]
 (C (t 27) (O [m 7, q (oCall 59 [(L 0)]), w 0, q (oExt (L 0) 0), q (oExt (L 1) 1), q (oStore 1 (t 3) (L 1)), p 6 (oMv (L 1))])
 xSkip))
 (S [m 6, p 4 (oMv (L 0))]
 R))))))
theorem eq_lf56 : lowAt 56 = some lf56 := by kernel_rfl
noncomputable def lf57 : LF := LF.mk [.tmp 5, .tmp 6] (S [p 5 (oMv (i 0)), p 6 (oMv (sC .nili))]
 (S [m 2, q (oCall 126 [(L 0)]), w 0, q (oExt (L 0) 0), q (oExt (L 1) 1), p 7 (oMv (L 1)), p 8 (oMv (L 1))]
 (Q (S [m 8, p 20 (oNot (L 0))]
 (C (t 20) (S [q (oMkIf 84 (i 10)), p 5 (oMv (i 0)), p 6 (oMv (L 1))]
 R)
 xSkip))
 (S [p 9 (oMv (i 1))]
 (Q (S [p 22 (oMv (t 7)), p 23 (oLenSl (L 0)), p 24 (oMv (i 0))]
 (xBlock 0 (xLoop (S [p 25 (oLt 3 Z M (t 24) (t 23))]
 (Q (C (t 25) xSkip
 (xExit 0))
 (Q (xBlock 1 (S [q (oIaddr 1 (t 22) (t 24)), q (oLoad1 (L 0)), p 11 (oMv (L 0))]
 (S [m 1, q (oNilck (L 0)), q (oFaddr 2 (L 0)), q (oLoad1 (L 0)), m 9, q (oCall 58 [(L 1), (L 0)]), w 0, q (oExt (L 0) 0), q (oExt (L 1) 1), p 12 (oMv (L 1)), p 13 (oMv (L 1))]
 (Q (S [m 13, p 38 (oEqN (L 0))]
 (C (t 38) (O [m 12, m 11, q (oCall 122 [(L 1), (L 0)]), w 0, q (oExt (L 0) 0), q (oExt (L 1) 1), p 9 (oMv (L 1)), p 13 (oMv (L 1))])
 xSkip))
 (S [m 13, p 46 (oNeN (L 0))]
 (C (t 46) (S [m 13, p 5 (oMv (i 0)), p 6 (oMv (L 1))]
 R)
 xSkip))))))
 (O [q (oAdd 3 M (t 24) (i 1)), p 24 (oMv (L 0))])))))))
 (S [m 9, p 5 (oMv (L 0)), p 6 (oMv (sC .nili))]
 R))))))
theorem eq_lf57 : lowAt 57 = some lf57 := by kernel_rfl
noncomputable def lf58 : LF := LF.mk [.tmp 5, .tmp 6] (S [p 5 (oMv (sC .nilp)), p 6 (oMv (sC .nili))]
 (S [m 2, q (oCall 89 [(L 0)]), p 7 (oMv (L 0))]
 (Q (S [m 1, p 13 (oEq eqP2 (L 0) (sC .nilp))]
 (C (t 13) (S [m 7, q (oCall 127 [(L 0), (i 1)]), p 5 (oMv (sC .nilp)), p 6 (oMv (L 1))]
 R)
 xSkip))
 (S [m 1, m 2, q (oCall 128 [(L 1), (L 0)]), w 0, q (oExt (L 0) 0), q (oExt (L 1) 1), p 8 (oMv (L 1)), p 9 (oMv (L 1))]
 (Q (xBlock 0 (S [m 9, q (oNeN (L 0)), p 22 (oMv (L 0))]
 (C (t 22) (S [m 7, m 9, q (oCall 129 [(L 1), (L 0)]), p 5 (oMv (sC .nilp)), p 6 (oMv (L 1))]
 R)
 (S [m 8, q (oNe (eqI 3) (L 0) (i 2)), p 28 (oMv (L 0))]
 (C (t 28) (S [m 7, q (oCall 127 [(L 0), (i 14)]), p 5 (oMv (sC .nilp)), p 6 (oMv (L 1))]
 R)
 xSkip)))))
 (S [m 1, m 2, q (oBuild (.cons .nilp (.cons (.int 3 0) .nl)) [(0, 1, (L 1)), (1, 1, (L 0))]), q (oBox (L 0)), p 5 (oMv (L 0)), p 6 (oMv (sC .nili))]
 R))))))
theorem eq_lf58 : lowAt 58 = some lf58 := by kernel_rfl
noncomputable def lf59 : LF := LF.mk [.tmp 3, .tmp 4] (S [p 3 (oMv (sC .nils)), p 4 (oMv (sC .nili))]
 (S [m 1, q (oCall 130 [(L 0)]), w 0, q (oExt (L 0) 0), q (oExt (L 1) 1), p 5 (oMv (L 1)), p 6 (oMv (L 1))]
 (Q (S [m 6, p 16 (oNeN (L 0))]
 (C (t 16) (S [m 6, q (oCall 129 [(s 0 0), (L 0)]), p 3 (oMv (sC .nils)), p 4 (oMv (L 1))]
 R)
 xSkip))
 (S [p 7 (oMv (sC .nils))]
 (Q (S [p 19 (oMv (t 5)), p 20 (oLenSl (L 0)), p 21 (oMv (i 0))]
 (xBlock 0 (xLoop (S [p 22 (oLt 3 Z M (t 21) (t 20))]
 (Q (C (t 22) xSkip
 (xExit 0))
 (Q (xBlock 1 (S [q (oIaddr 2 (t 19) (t 21)), q (oLoadN 2 (L 0)), p 9 (oNew (.cells 2 0 (.node (.node .nil (some (.int 3 0)) .nil) (some (.str 0 0)) .nil))), q (oStore 2 (L 0) (L 1))]
 (O [m 7, q (oFaddr 0 (t 9)), q (oLoad1 (L 0)), q (oBuildSl 1 1 (.cons (.str 0 0) .nl) [(0, (L 0))]), q (oAppend 1 16 (L 3) (L 0)), p 7 (oMv (L 0))])))
 (O [q (oAdd 3 M (t 21) (i 1)), p 21 (oMv (L 0))])))))))
 (S [m 7, q (oCall 131 [(L 0), (sC (.func 132 .nl))])]
 (S [m 7, q (oCall 133 [(L 0)]), p 3 (oMv (L 0)), p 4 (oMv (sC .nili))]
 R)))))))
theorem eq_lf59 : lowAt 59 = some lf59 := by kernel_rfl
noncomputable def lf60 : LF := LF.mk [.tmp 5] (S [p 3 (oBox (t 1)), p 4 (oBox (t 2)), p 5 (oMv (sC .nili))]
 (S [q (oLoad1 (t 3)), q (oLoad1 (t 4)), q (oMkFn 134 [(t 3), (t 4)]), q (oCall 48 [(L 2), (s 5 469953177970), (L 1), (L 0)]), p 5 (oMv (L 0))]
 R))
theorem eq_lf60 : lowAt 60 = some lf60 := by kernel_rfl
noncomputable def lf61 : LF := LF.mk [.tmp 3, .cellN 4 3, .tmp 5] (S [p 3 (oMv (s 0 0)), p 4 (oNew (.cells 3 0 (.node (.node .nil (some (.int 3 0)) .nil) (some (.bool false)) (.node .nil (some (.int 3 0)) .nil)))), p 5 (oMv (sC (.bool false)))]
 (S [m 1, q (oCall 136 [(L 0), (s 5 199236742758)]), w 0, q (oExt (L 0) 0), q (oExt (L 1) 1), p 6 (oMv (L 1)), p 5 (oMv (L 1))]
 (Q (S [m 5, q (oNot (L 0)), w 0, g 0 0 false (oMv (t 6)), g 0 1 false (oEq eqS (L 0) (s 0 0)), p 20 (oPick (L 2) (sC (.bool true)) (L 0))]
 (C (t 20) (S [q (oBuild (.cons (.bool false) (.cons (.int 3 0) (.cons (.int 3 0) .nl))) []), p 3 (oMv (s 0 0)), q (oStore 3 (t 4) (L 1)), p 5 (oMv (sC (.bool false)))]
 R)
 xSkip))
 (Q (S [m 6, q (oCall 137 [(L 0), (sC (.int 4 43))]), p 7 (oMv (L 0))]
 (S [m 7, p 25 (oLt 3 Z M (i 0) (L 0))]
 (C (t 25) (S [m 6, m 7, q (oAdd 3 M (L 0) (i 1)), q (oSliceS (L 2) (some (L 0)) none), q (oCall 138 [(L 0)]), w 0, q (oExt (L 0) 0), q (oExt (L 1) 1), p 8 (oNew (.cells 3 0 (.node (.node .nil (some (.int 3 0)) .nil) (some (.bool false)) (.node .nil (some (.int 3 0)) .nil)))), q (oStore 3 (L 0) (L 2)), p 9 (oMv (L 2))]
 (S [p 34 (oMv (t 9))]
 (C (t 34) (Q (xDr [D (m 6) 2 [], D (m 7) 2 [], D (q (oSliceS (L 1) none (some (L 0)))) 2 [], D (q (oLoadN 3 (t 8))) 1 [], D (p 3 (oMv (L 1))) 2 [], D (q (oStore 3 (t 4) (L 1))) 0 [], D (p 5 (oMv (sC (.bool true)))) 2 []])
 R)
 xSkip)))
 xSkip)))
 (S [m 6, q (oBuild (.cons (.bool false) (.cons (.int 3 0) (.cons (.int 3 0) .nl))) []), p 3 (oMv (L 1)), q (oStore 3 (t 4) (L 1)), p 5 (oMv (sC (.bool true)))]
 R)))))
theorem eq_lf61 : lowAt 61 = some lf61 := by kernel_rfl
noncomputable def lf64 : LF := LF.mk [.tmp 5] (S [p 5 (oMv (sC .nili))]
 (S [m 1, m 2, q (oCall 140 [(L 1), (L 0)]), w 0, q (oExt (L 0) 0), q (oExt (L 1) 1), p 6 (oMv (L 1)), p 7 (oMv (L 1))]
 (Q (S [m 7, q (oEqN (L 0)), w 0, g 0 0 true (oMv (t 6)), p 18 (oPick (L 1) (L 0) (sC (.bool false)))]
 (C (t 18) (O [q (oMkIf 84 (i 35)), p 7 (oMv (L 0))])
 xSkip))
 (S [m 7, p 5 (oMv (L 0))]
 R))))
theorem eq_lf64 : lowAt 64 = some lf64 := by kernel_rfl
noncomputable def lf65 : LF := LF.mk [.tmp 3] (S [p 3 (oMv (sC (.bool false)))]
 (S [m 1, q (oLenSl (L 0)), q (oLe 3 Z M (L 0) (i 32)), w 0, g 0 0 true (oMv (t 1)), g 0 1 true (oCall 141 [(L 0), (sC (.func 142 .nl))]), g 0 2 true (oNot (L 0)), q (oPick (L 3) (L 0) (sC (.bool false))), p 3 (oMv (L 0))]
 R))
theorem eq_lf65 : lowAt 65 = some lf65 := by kernel_rfl
noncomputable def lf67 : LF := LF.mk [.cellN 7 4, .tmp 8] (S [p 7 (oNew (.cells 4 0 (.node (.node (.node .nil (some .nils) .nil) (some .nils) .nil) (some .nils) (.node .nil (some (.str 0 0)) .nil)))), p 8 (oMv (sC .nili))]
 (S [m 1, m 2, q (oCall 70 [(L 1), (L 0)]), w 0, q (oExt (L 0) 0), q (oExt (L 1) 1), p 9 (oNew (.cells 5 0 (.node (.node (.node .nil (some .nils) .nil) (some (.str 0 0)) .nil) (some (.str 0 0)) (.node (.node .nil (some (.str 0 0)) .nil) (some (.str 0 0)) .nil)))), q (oStore 5 (L 0) (L 2)), p 10 (oMv (L 2))]
 (Q (S [m 10, p 26 (oNeN (L 0))]
 (C (t 26) (S [q (oBuild (.cons .nils (.cons .nils (.cons (.str 0 0) (.cons .nils .nl)))) []), m 10, q (oStore 4 (t 7) (L 1)), p 8 (oMv (L 1))]
 R)
 xSkip))
 (S [m 1, q (oLoadN 5 (t 9)), q (oCall 143 [(L 1), (L 0)]), w 0, q (oExt (L 0) 0), q (oExt (L 1) 1), p 11 (oMv (L 1)), p 10 (oMv (L 1))]
 (Q (S [m 10, p 36 (oNeN (L 0))]
 (C (t 36) (S [q (oBuild (.cons .nils (.cons .nils (.cons (.str 0 0) (.cons .nils .nl)))) []), m 10, q (oStore 4 (t 7) (L 1)), p 8 (oMv (L 1))]
 R)
 xSkip))
 (S [m 11, q (oBuild (.cons .nils (.cons .nils (.cons (.str 0 0) (.cons .nils .nl)))) [(3, 1, (L 0))]), p 12 (oNew (.cells 4 0 (.node (.node (.node .nil (some .nils) .nil) (some .nils) .nil) (some .nils) (.node .nil (some (.str 0 0)) .nil)))), q (oStore 4 (L 0) (L 1))]
 (Q (S [p 41 (oMv (t 11)), p 42 (oLenSl (L 0)), p 43 (oMv (i 0))]
 (xBlock 0 (xLoop (S [p 44 (oLt 3 Z M (t 43) (t 42))]
 (Q (C (t 44) xSkip
 (xExit 0))
 (Q (xBlock 1 (S [q (oIaddr 1 (t 41) (t 43)), q (oLoad1 (L 0)), p 14 (oMv (L 0))]
 (O [q (oFaddr 1 (t 12)), q (oLoad1 (L 0)), m 14, q (oLenSl (L 0)), q (oBuildSl 1 1 (.cons (.int 3 0) .nl) [(0, (L 0))]), q (oAppend 1 8 (L 3) (L 0)), q (oFaddr 1 (t 12)), q (oStore 1 (L 0) (L 1))])))
 (O [q (oAdd 3 M (t 43) (i 1)), p 43 (oMv (L 0))])))))))
 (S [q (oFaddr 1 (t 12)), q (oLoad1 (L 0)), q (oCall 144 [(L 0)]), q (oFaddr 1 (t 12)), q (oStore 1 (L 0) (L 1))]
 (S [p 15 (oMv (sC (.bool false)))]
 (Q (S [m 3, q (oFaddr 1 (t 12)), q (oLoad1 (L 0)), q (oCall 145 [(L 2), (L 0)]), w 0, q (oExt (L 0) 0), q (oExt (L 1) 1), q (oFaddr 0 (t 12)), q (oStore 1 (L 0) (L 2)), p 15 (oMv (L 2))]
 (S [m 15, p 68 (oNot (L 0))]
 (C (t 68) (S [q (oBuild (.cons .nils (.cons .nils (.cons (.str 0 0) (.cons .nils .nl)))) []), q (oMkIf 84 (i 33)), q (oStore 4 (t 7) (L 1)), p 8 (oMv (L 1))]
 R)
 xSkip)))
 (S [m 2, q (oCall 61 [(L 0)]), w 0, q (oExt (L 0) 0), q (oExt (L 1) 1), q (oExt (L 2) 2), p 17 (oNew (.cells 3 0 (.node (.node .nil (some (.int 3 0)) .nil) (some (.bool false)) (.node .nil (some (.int 3 0)) .nil)))), w 3, q (oStore 3 (L 1) (L 3)), w 3]
 (Q (Q (xDr [D (q (oFaddr 4 (t 9))) 2 [], D (q (oLoad1 (L 0))) 1 [7], D (m 2) 2 [], D (q (oLoadN 3 (t 17))) 1 [], D (q (oCall 147 [(L 0)])) 0 [], D (q (oEq (eqI 3) (L 0) (i 1))) 2 [], D (q (oFaddr 0 (t 12))) 2 [], D (q (oLoad1 (L 0))) 1 [13], D (q (oFaddr 1 (t 12))) 2 [], D (q (oLoad1 (L 0))) 1 [13], D (q (oCall 146 [(L 8), (L 7), (L 4), (L 2), (L 0)])) 0 [], D (w 0) 2 [], D (q (oExt (L 0) 0)) 2 [], D (q (oExt (L 1) 1)) 2 [], D (q (oFaddr 2 (t 12))) 2 [], D (q (oStore 1 (L 0) (L 2))) 0 [], D (p 10 (oMv (L 2))) 2 []])
 (S [m 10, p 93 (oNeN (L 0))]
 (C (t 93) (S [q (oBuild (.cons .nils (.cons .nils (.cons (.str 0 0) (.cons .nils .nl)))) []), m 10, q (oStore 4 (t 7) (L 1)), p 8 (oMv (L 1))]
 R)
 xSkip)))
 (S [q (oLoadN 4 (t 12)), q (oStore 4 (t 7) (L 0)), p 8 (oMv (sC .nili))]
 R)))))))))))))
theorem eq_lf67 : lowAt 67 = some lf67 := by kernel_rfl
noncomputable def lf68 : LF := LF.mk [.tmp 5] (S [p 5 (oMv (sC .nili))]
 (S [m 1, m 2, q (oCall 96 [(s 4 1651470196), (L 1), (L 0)]), p 5 (oMv (L 0))]
 R))
theorem eq_lf68 : lowAt 68 = some lf68 := by kernel_rfl
noncomputable def lf69 : LF := LF.mk [.cellN 5 6, .tmp 6] (S [p 5 (oNew (.cells 6 0 (.node (.node (.node .nil (some (.int 3 0)) .nil) (some (.str 0 0)) (.node .nil (some (.str 0 0)) .nil)) (some (.str 0 0)) (.node (.node .nil (some (.int 3 0)) .nil) (some (.bool false)) .nil)))), p 6 (oMv (sC (.bool false)))]
 (S [m 1, q (oCall 61 [(L 0)]), w 0, q (oExt (L 0) 0), q (oExt (L 1) 1), q (oExt (L 2) 2), p 8 (oNew (.cells 3 0 (.node (.node .nil (some (.int 3 0)) .nil) (some (.bool false)) (.node .nil (some (.int 3 0)) .nil)))), p 7 (oMv (L 3)), q (oStore 3 (L 1) (L 3)), p 9 (oMv (L 3))]
 (Q (S [m 9, p 17 (oNot (L 0))]
 (C (t 17) (S [q (oBuild (.cons (.str 0 0) (.cons (.str 0 0) (.cons (.bool false) (.cons (.int 3 0) (.cons (.int 3 0) (.cons (.str 0 0) .nl)))))) []), q (oStore 6 (t 5) (L 0)), p 6 (oMv (sC (.bool false)))]
 R)
 xSkip))
 (S [m 1, m 7, q (oLoadN 3 (t 8)), m 2, q (oBuild (.cons (.str 0 0) (.cons (.str 0 0) (.cons (.bool false) (.cons (.int 3 0) (.cons (.int 3 0) (.cons (.str 0 0) .nl)))))) [(0, 1, (L 3)), (1, 1, (L 2)), (2, 3, (L 1)), (5, 1, (L 0))]), q (oStore 6 (t 5) (L 0)), p 6 (oMv (sC (.bool true)))]
 R))))
theorem eq_lf69 : lowAt 69 = some lf69 := by kernel_rfl
noncomputable def lf70 : LF := LF.mk [.cellN 5 5, .tmp 6] (S [p 5 (oNew (.cells 5 0 (.node (.node (.node .nil (some .nils) .nil) (some (.str 0 0)) .nil) (some (.str 0 0)) (.node (.node .nil (some (.str 0 0)) .nil) (some (.str 0 0)) .nil)))), p 6 (oMv (sC .nili))]
 (S [m 1, m 2, q (oCat (s 9 874305878744361169711) (L 0)), q (oCall 148 [(L 2), (L 0)]), w 0, q (oExt (L 0) 0), q (oExt (L 1) 1), p 7 (oMv (L 1)), p 8 (oMv (L 1))]
 (Q (S [m 8, p 17 (oNeN (L 0))]
 (C (t 17) (S [q (oBuild (.cons (.str 0 0) (.cons (.str 0 0) (.cons (.str 0 0) (.cons .nils (.cons (.str 0 0) .nl))))) []), m 8, q (oStore 5 (t 5) (L 1)), p 6 (oMv (L 1))]
 R)
 xSkip))
 (S [m 7, q (oBsToStr (L 0)), q (oCall 149 [(L 0)]), q (oExt (L 0) 0), q (oExt (L 1) 1), q (oStore 5 (t 5) (L 1)), p 6 (oMv (L 1))]
 R))))
theorem eq_lf70 : lowAt 70 = some lf70 := by kernel_rfl
noncomputable def lf71 : LF := LF.mk [.tmp 3] (S [p 3 (oMv (sC (.bool false)))]
 (S [p 4 (oNew (.cells 1 0 (.node .nil (some .nilp) .nil)))]
 (S [m 1, q (oMkIf 99 (t 4)), q (oCall 46 [(L 1), (L 0)]), w 0, g 0 0 true (oLoad1 (t 4)), g 0 1 true (oMkIf 97 (L 0)), g 0 2 true (oMkIf 84 (i 50)), g 0 3 true (oCall 47 [(L 1), (L 0)]), q (oPick (L 4) (L 0) (sC (.bool false))), p 3 (oMv (L 0))]
 R)))
theorem eq_lf71 : lowAt 71 = some lf71 := by kernel_rfl
noncomputable def lf72 : LF := LF.mk [.tmp 3] (S [p 3 (oMv (sC .nils))]
 (S [m 1, m 1, q (oLenSl (L 0)), m 1, q (oLenSl (L 0)), q (oSlice 6 (L 4) none (some (L 2)) (some (L 0))), p 3 (oMv (L 0))]
 R))
theorem eq_lf72 : lowAt 72 = some lf72 := by kernel_rfl
noncomputable def lf73 : LF := LF.mk [.tmp 3] (S [p 3 (oMv (sC .nils))]
 (S [m 1, q (oCall 150 [(L 0)]), q (oCall 72 [(L 0)]), p 4 (oMv (L 0))]
 (S [m 4, q (oCall 151 [(L 0), (sC (.func 152 .nl))])]
 (S [m 4, p 3 (oMv (L 0))]
 R))))
theorem eq_lf73 : lowAt 73 = some lf73 := by kernel_rfl
noncomputable def lf74 : LF := LF.mk [.tmp 3, .tmp 4] (S [p 3 (oMv (s 0 0)), p 4 (oMv (sC .nili))]
 (S [m 1, q (oCall 154 [(L 0)]), w 0, q (oExt (L 0) 0), q (oExt (L 1) 1), p 5 (oMv (L 1)), p 6 (oMv (L 1))]
 (Q (S [m 6, p 18 (oNeN (L 0))]
 (C (t 18) (S [m 6, p 3 (oMv (s 0 0)), p 4 (oMv (L 1))]
 R)
 xSkip))
 (S [m 5, q (oCall 61 [(L 0)]), w 0, q (oExt (L 0) 0), q (oExt (L 1) 1), q (oExt (L 2) 2), p 8 (oNew (.cells 3 0 (.node (.node .nil (some (.int 3 0)) .nil) (some (.bool false)) (.node .nil (some (.int 3 0)) .nil)))), w 3, q (oStore 3 (L 1) (L 3)), p 9 (oMv (L 3))]
 (Q (S [m 9, p 27 (oNot (L 0))]
 (C (t 27) (S [q (oMkIf 84 (i 7)), p 3 (oMv (s 0 0)), p 4 (oMv (L 1))]
 R)
 xSkip))
 (S [m 1, m 5, q (oCat (s 9 874305878744361169711) (L 0)), q (oCall 139 [(L 2), (L 0)]), w 0, q (oExt (L 0) 0), q (oExt (L 1) 1), p 10 (oNew (.cells 3 0 (.node (.node .nil (some (.int 3 0)) .nil) (some (.bool false)) (.node .nil (some (.int 3 0)) .nil)))), q (oStore 3 (L 0) (L 2)), p 6 (oMv (L 2))]
 (Q (S [m 6, q (oBuildSl 3 1 (.cons (.int 3 0) .nl) [(0, (i 11)), (1, (i 14)), (2, (i 10))]), q (oCall 54 [(L 1), (L 0)]), p 6 (oMv (L 0))]
 (S [m 6, p 40 (oNeN (L 0))]
 (C (t 40) (S [m 6, p 3 (oMv (s 0 0)), p 4 (oMv (L 1))]
 R)
 xSkip)))
 (S [m 1, m 5, q (oCat (s 9 874305878744361169711) (L 0)), q (oCall 155 [(L 2), (L 0)]), w 0, q (oExt (L 0) 0), q (oExt (L 1) 1), p 11 (oMv (L 1)), p 6 (oMv (L 1))]
 (Q (xBlock 0 (S [m 6, q (oNeN (L 0)), p 49 (oMv (L 0))]
 (C (t 49) (S [m 6, p 3 (oMv (s 0 0)), p 4 (oMv (L 1))]
 R)
 (Q (S [m 11, q (oNot (L 0)), p 53 (oMv (L 0))]
 (C (t 53) xSkip
 (S [q (oFaddr 0 (t 10)), q (oLoad1 (L 0)), p 53 (oMv (L 0))]
 (C (t 53) xSkip
 (O [q (oLoadN 3 (t 8)), q (oCall 147 [(L 0)]), q (oEq (eqI 3) (L 0) (i 0)), p 53 (oMv (L 0))])))))
 (C (t 53) (S [q (oMkIf 84 (i 7)), p 3 (oMv (s 0 0)), p 4 (oMv (L 1))]
 R)
 xSkip)))))
 (S [m 5, p 3 (oMv (L 0)), p 4 (oMv (sC .nili))]
 R))))))))))
theorem eq_lf74 : lowAt 74 = some lf74 := by kernel_rfl
noncomputable def lf75 : LF := LF.mk [.cellN 1 3] (S [p 1 (oNew (.cells 3 0 (.node (.node .nil (some (.int 3 0)) .nil) (some (.bool false)) (.node .nil (some (.int 3 0)) .nil))))]
 (S [q (oBuild (.cons (.bool false) (.cons (.int 3 0) (.cons (.int 3 0) .nl))) []), q (oStore 3 (t 1) (L 0))]
 R))
theorem eq_lf75 : lowAt 75 = some lf75 := by kernel_rfl
noncomputable def lf76 : LF := LF.mk [.tmp 7] (S [p 7 (oMv (sC .nili))]
 (S [m 1, m 3, q (oCat (s 9 874305878744361169711) (L 0)), q (oCall 155 [(L 2), (L 0)]), w 0, q (oExt (L 0) 0), q (oExt (L 1) 1), p 8 (oMv (L 1)), p 9 (oMv (L 1))]
 (Q (xBlock 0 (S [m 9, q (oNeN (L 0)), p 17 (oMv (L 0))]
 (C (t 17) (S [m 9, p 7 (oMv (L 0))]
 R)
 (S [m 8, p 21 (oMv (L 0))]
 (C (t 21) (S [q (oMkIf 84 (i 12)), p 7 (oMv (L 0))]
 R)
 xSkip)))))
 (S [m 1, m 2, q (oCat (s 9 874305878744361169711) (L 0)), m 3, q (oCat (s 9 874305878744361169711) (L 0)), q (oCall 102 [(L 4), (L 2), (L 0)]), p 7 (oMv (L 0))]
 R))))
theorem eq_lf76 : lowAt 76 = some lf76 := by kernel_rfl
noncomputable def lf77 : LF := LF.mk [.cellN 7 6, .tmp 8, .tmp 9] (S [p 5 (oBox (t 2)), p 7 (oNew (.cells 6 0 (.node (.node (.node .nil (some .nils) .nil) (some (.bool false)) (.node .nil (some .nils) .nil)) (some (.str 0 0)) (.node (.node .nil (some (.str 0 0)) .nil) (some .nils) .nil)))), p 8 (oMv (sC (.bool false))), p 9 (oMv (sC .nili))]
 (Q (S [q (oLoadN 6 (t 5)), q (oCall 156 [(L 0)]), p 17 (oNot (L 0))]
 (C (t 17) (S [q (oBuild (.cons (.str 0 0) (.cons (.bool false) (.cons .nils (.cons .nils (.cons (.str 0 0) (.cons .nils .nl)))))) []), q (oStore 6 (t 7) (L 0)), p 8 (oMv (sC (.bool false))), p 9 (oMv (sC .nili))]
 R)
 xSkip))
 (Q (S [q (oFaddr 2 (t 5)), q (oLoadN 3 (L 0)), q (oCall 85 [(L 0)]), w 0, q (oExt (L 0) 0), q (oExt (L 1) 1), q (oNew (.cells 3 0 (.node (.node .nil (some (.int 3 0)) .nil) (some (.bool false)) (.node .nil (some (.int 3 0)) .nil)))), q (oStore 3 (L 0) (L 2)), p 11 (oMv (L 2))]
 (S [q (oFaddr 2 (t 5)), q (oFaddr 0 (L 0)), q (oLoad1 (L 0)), w 0, g 0 0 true (oMv (t 11)), g 0 1 true (oNot (L 0)), p 31 (oPick (L 2) (L 0) (sC (.bool false)))]
 (C (t 31) (S [q (oBuild (.cons (.str 0 0) (.cons (.bool false) (.cons .nils (.cons .nils (.cons (.str 0 0) (.cons .nils .nl)))))) []), q (oStore 6 (t 7) (L 0)), p 8 (oMv (sC (.bool false))), p 9 (oMv (sC .nili))]
 R)
 xSkip)))
 (S [m 1, q (oFaddr 0 (t 5)), q (oLoad1 (L 0)), m 3, q (oCall 23 [(L 3), (L 1), (L 0)]), w 0, q (oExt (L 0) 0), q (oExt (L 1) 1), p 12 (oNew (.cells 4 0 (.node (.node (.node .nil (some .nils) .nil) (some .nils) .nil) (some .nils) (.node .nil (some (.str 0 0)) .nil)))), q (oStore 4 (L 0) (L 2)), p 13 (oMv (L 2))]
 (Q (xBlock 0 (S [m 13, q (oCall 71 [(L 0)]), p 41 (oMv (L 0))]
 (C (t 41) (S [q (oBuild (.cons (.str 0 0) (.cons (.bool false) (.cons .nils (.cons .nils (.cons (.str 0 0) (.cons .nils .nl)))))) []), m 13, q (oStore 6 (t 7) (L 1)), p 8 (oMv (sC (.bool false))), p 9 (oMv (L 2))]
 R)
 (S [m 13, q (oNeN (L 0)), p 46 (oMv (L 0))]
 (C (t 46) (S [q (oBuild (.cons (.str 0 0) (.cons (.bool false) (.cons .nils (.cons .nils (.cons (.str 0 0) (.cons .nils .nl)))))) []), q (oStore 6 (t 7) (L 0)), p 8 (oMv (sC (.bool false))), p 9 (oMv (sC .nili))]
 R)
 xSkip)))))
 (S [m 1, q (oLoadN 6 (t 5)), q (oLoadN 4 (t 12)), q (oCall 157 [(L 2), (L 1), (L 0)]), w 0, q (oExt (L 0) 0), q (oExt (L 1) 1), p 14 (oNew (.cells 6 0 (.node (.node (.node .nil (some .nils) .nil) (some (.bool false)) (.node .nil (some .nils) .nil)) (some (.str 0 0)) (.node (.node .nil (some (.str 0 0)) .nil) (some .nils) .nil)))), q (oStore 6 (L 0) (L 2)), p 13 (oMv (L 2))]
 (Q (xDr [D (q (oLoadN 6 (t 14))) 1 [], D (m 13) 2 [], D (q (oEqN (L 0))) 2 [], D (m 13) 2 [], D (q (oStore 6 (t 7) (L 3))) 0 [], D (p 8 (oMv (L 2))) 2 [], D (p 9 (oMv (L 2))) 2 []])
 R)))))))
theorem eq_lf77 : lowAt 77 = some lf77 := by kernel_rfl
noncomputable def lf81 : LF := LF.mk [.tmp 3, .tmp 4] (S [p 3 (oMv (sC .nilp)), p 4 (oMv (sC .nili))]
 (Q (S [m 1, q (oLt 3 Z M (L 0) (i 16)), w 0, g 0 0 false (oMv (t 1)), g 0 1 false (oLt 3 Z M (i 2048) (L 0)), p 10 (oPick (L 2) (sC (.bool true)) (L 0))]
 (C (t 10) (S [m 1, q (oCall 161 [(L 0), (i 1)]), p 3 (oMv (sC .nilp)), p 4 (oMv (L 1))]
 R)
 xSkip))
 (S [m 1, q (oMkSl 1 24 (.cons .nils .nl) (L 0) (L 0)), q (oBuild (.cons .nils (.cons (.int 3 0) (.cons (.int 3 0) (.cons (.bool false) .nl)))) [(0, 1, (L 0)), (2, 1, (i 18446744073709551615))]), q (oBox (L 0)), p 3 (oMv (L 0)), p 4 (oMv (sC .nili))]
 R)))
theorem eq_lf81 : lowAt 81 = some lf81 := by kernel_rfl
noncomputable def lf82 : LF := LF.mk [.tmp 7, .tmp 8] (S [p 7 (oMv (sC .nilp)), p 8 (oMv (sC .nili))]
 (S [m 1, m 2, m 3, q (oCall 162 [(L 2), (L 1), (L 0)]), w 0, q (oExt (L 0) 0), q (oExt (L 1) 1), p 9 (oMv (L 1)), p 10 (oMv (L 1))]
 (Q (S [m 10, p 19 (oNeN (L 0))]
 (C (t 19) (S [m 10, q (oCall 96 [(s 6 112628847174004), (s 0 0), (L 0)]), p 7 (oMv (sC .nilp)), p 8 (oMv (L 1))]
 R)
 xSkip))
 (S [m 9, p 7 (oMv (L 0)), p 8 (oMv (sC .nili))]
 R))))
theorem eq_lf82 : lowAt 82 = some lf82 := by kernel_rfl
noncomputable def lf83 : LF := LF.mk [.tmp 7] (S [p 7 (oMv (sC .nilp))]
 (S [m 1, m 2, q (oCall 163 [(L 1), (L 0)]), w 0, q (oExt (L 0) 0), q (oExt (L 1) 1), p 8 (oMv (L 1)), p 9 (oMv (L 1))]
 (Q (S [m 9, q (oNot (L 0)), w 0, g 0 0 false (oMv (t 3)), g 0 1 false (oLt 3 Z M (L 0) (i 0)), q (oPick (L 2) (sC (.bool true)) (L 0)), w 0, g 0 0 false (oMv (t 3)), g 0 1 false (oLt 3 Z M (i 64) (L 0)), q (oPick (L 2) (sC (.bool true)) (L 0)), w 0, g 0 0 false (oMv (t 3)), g 0 1 false (oMv (t 8)), g 0 2 false (oSub 3 M (L 0) (i 8)), g 0 3 false (oLt 3 Z M (L 0) (L 2)), p 31 (oPick (L 4) (sC (.bool true)) (L 0))]
 (C (t 31) (S [p 7 (oMv (sC .nilp))]
 R)
 xSkip))
 (S [m 8, m 2, m 3, q (oBuild (.cons (.str 0 0) (.cons (.bool false) (.cons (.str 0 0) (.cons (.int 3 0) (.cons (.int 3 0) .nl))))) [(0, 1, (s 1 47)), (1, 1, (sC (.bool true))), (3, 1, (i 1))]), q (oBuildSl 1 5 (.cons (.str 0 0) (.cons (.bool false) (.cons (.str 0 0) (.cons (.int 3 0) (.cons (.int 3 0) .nl))))) [(0, (L 0))]), q (oMkSl 3 24 (.cons (.int 3 0) (.cons (.int 3 0) (.cons (.int 3 0) .nl))) (i 16) (i 16)), q (oBuild (.cons (.int 3 0) (.cons (.int 3 0) (.cons (.int 3 0) (.cons .nils (.cons .nils .nl))))) [(0, 1, (L 5)), (1, 1, (L 4)), (2, 1, (L 3)), (3, 1, (L 1)), (4, 1, (L 0))]), q (oBox (L 0)), p 7 (oMv (L 0))]
 R))))
theorem eq_lf83 : lowAt 83 = some lf83 := by kernel_rfl
noncomputable def lf84 : LF := LF.mk [.tmp 7] (S [p 7 (oMv (i 0))]
 (Q (S [m 2, q (oCall 164 [(L 0)]), w 0, q (oExt (L 0) 0), q (oExt (L 1) 1), w 1, p 9 (oMv (L 1))]
 (S [m 9, p 18 (oNot (L 0))]
 (C (t 18) (S [p 7 (oMv (i 10))]
 R)
 xSkip)))
 (Q (S [m 2, p 20 (oEq eqS (L 0) (s 1 47))]
 (C (t 20) (S [p 7 (oMv (i 12))]
 R)
 xSkip))
 (S [m 1, m 2, q (oCall 165 [(L 1), (L 0)]), w 0, q (oExt (L 0) 0), q (oExt (L 1) 1), p 10 (oMv (L 1)), p 11 (oMv (L 1))]
 (Q (xBlock 0 (S [m 11, q (oNe (eqI 3) (L 0) (i 0)), p 27 (oMv (L 0))]
 (C (t 27) (S [m 11, p 7 (oMv (L 0))]
 R)
 (S [m 1, m 2, q (oCall 166 [(L 1), (L 0)]), q (oLe 3 Z M (i 0) (L 0)), p 31 (oMv (L 0))]
 (C (t 31) (S [p 7 (oMv (i 12))]
 R)
 (S [m 1, m 10, q (oCall 167 [(L 1), (L 0)]), q (oLenSl (L 0)), q (oLe 3 Z M (i 120) (L 0)), p 36 (oMv (L 0))]
 (C (t 36) (S [p 7 (oMv (i 65))]
 R)
 (Q (xDr [D (m 1) 2 [], D (q (oNilck (L 0))) 2 [], D (q (oFaddr 3 (L 0))) 2 [], D (q (oLoad1 (L 0))) 1 [], D (q (oLenSl (L 0))) 2 [], D (m 1) 2 [], D (q (oNilck (L 0))) 2 [], D (q (oFaddr 1 (L 0))) 2 [], D (q (oLoad1 (L 0))) 1 [], D (q (oLe 3 Z M (L 0) (L 4))) 2 [], D (p 42 (oMv (L 0))) 2 []])
 (C (t 42) (S [p 7 (oMv (i 16))]
 R)
 (Q (xDr [D (m 1) 2 [], D (q (oCall 169 [(L 0)])) 0 [], D (m 1) 2 [], D (q (oNilck (L 0))) 2 [], D (q (oFaddr 2 (L 0))) 2 [], D (q (oLoad1 (L 0))) 1 [11, 3], D (m 1) 2 [], D (m 10) 2 [], D (q (oCall 170 [(L 1), (L 0)])) 0 [], D (q (oCall 168 [(L 7), (L 3), (L 0), (sC (.bool false))])) 0 [], D (q (oNot (L 0))) 2 [], D (p 53 (oMv (L 0))) 2 []])
 (C (t 53) (S [p 7 (oMv (i 15))]
 R)
 xSkip)))))))))))
 (Q (xDr [D (m 1) 2 [], D (m 1) 2 [], D (q (oNilck (L 0))) 2 [], D (q (oFaddr 3 (L 0))) 2 [], D (q (oLoad1 (L 0))) 1 [5, 4], D (m 2) 2 [], D (m 3) 2 [], D (m 1) 2 [], D (q (oCall 171 [(L 0)])) 0 [], D (q (oBuild (.cons (.str 0 0) (.cons (.bool false) (.cons (.str 0 0) (.cons (.int 3 0) (.cons (.int 3 0) .nl))))) [(0, 1, (L 3)), (1, 1, (L 2)), (3, 1, (L 0))])) 2 [], D (q (oBuildSl 1 5 (.cons (.str 0 0) (.cons (.bool false) (.cons (.str 0 0) (.cons (.int 3 0) (.cons (.int 3 0) .nl))))) [(0, (L 0))])) 0 [], D (q (oAppend 5 56 (L 6) (L 0))) 0 [], D (q (oNilck (L 11))) 2 [], D (q (oFaddr 3 (L 0))) 2 [], D (q (oStore 1 (L 0) (L 2))) 0 []])
 (S [p 7 (oMv (i 0))]
 R)))))))
theorem eq_lf84 : lowAt 84 = some lf84 := by kernel_rfl
noncomputable def lf85 : LF := LF.mk [.cellN 3 3, .tmp 4] (S [p 2 (oBox (t 1)), p 3 (oNew (.cells 3 0 (.node (.node .nil (some (.int 3 0)) .nil) (some (.bool false)) (.node .nil (some (.int 3 0)) .nil)))), p 4 (oMv (sC (.bool false)))]
 (Q (S [q (oLoadN 3 (t 2)), q (oCall 147 [(L 0)]), q (oNe (eqI 3) (L 0) (i 1)), w 0, g 0 0 false (oFaddr 2 (t 2)), g 0 1 false (oLoad1 (L 0)), g 0 2 false (oLe 3 Z M (i 99) (L 0)), p 12 (oPick (L 3) (sC (.bool true)) (L 0))]
 (C (t 12) (S [q (oLoadN 3 (t 2)), q (oStore 3 (t 3) (L 0)), p 4 (oMv (sC (.bool false)))]
 R)
 xSkip))
 (S [q (oFaddr 1 (t 2)), q (oLoad1 (L 0)), q (oSub 3 M (L 0) (i 1)), q (oFaddr 1 (t 2)), q (oStore 1 (L 0) (L 1))]
 (S [q (oFaddr 2 (t 2)), q (oLoad1 (L 0)), q (oAdd 3 M (L 0) (i 1)), q (oFaddr 2 (t 2)), q (oStore 1 (L 0) (L 1))]
 (S [q (oLoadN 3 (t 2)), q (oStore 3 (t 3) (L 0)), p 4 (oMv (sC (.bool true)))]
 R)))))
theorem eq_lf85 : lowAt 85 = some lf85 := by kernel_rfl
noncomputable def lf86 : LF := LF.mk [.tmp 5] (S [p 4 (oBox (t 2)), p 5 (oMv (sC (.bool false)))]
 (S [m 1, q (oLoadN 3 (t 4)), q (oCall 39 [(L 1), (L 0)]), p 6 (oMv (L 0))]
 (S [m 6, q (oCall 61 [(L 0)]), w 0, q (oExt (L 0) 0), q (oExt (L 1) 1), q (oExt (L 2) 2), p 8 (oNew (.cells 3 0 (.node (.node .nil (some (.int 3 0)) .nil) (some (.bool false)) (.node .nil (some (.int 3 0)) .nil)))), p 7 (oMv (L 3)), q (oStore 3 (L 1) (L 3)), p 9 (oMv (L 3))]
 (S [m 9, w 0, g 0 0 true (oMv (t 6)), g 0 1 true (oCall 172 [(L 0)]), q (oPick (L 2) (L 0) (sC (.bool false))), w 0, g 0 0 true (oMv (t 7)), g 0 1 true (oMv (t 1)), g 0 2 true (oEq eqS (L 1) (L 0)), q (oPick (L 3) (L 0) (sC (.bool false))), w 0, g 0 0 true (oLoadN 3 (t 8)), g 0 1 true (oLoadN 3 (t 4)), g 0 2 true (oEq (eqSt [9, 3, 3]) (L 1) (L 0)), q (oPick (L 3) (L 0) (sC (.bool false))), p 5 (oMv (L 0))]
 R))))
theorem eq_lf86 : lowAt 86 = some lf86 := by kernel_rfl
noncomputable def lf87 : LF := LF.mk [.tmp 7] (S [p 7 (oMv (sC .nili))]
 (Q (S [m 3, p 9 (oEq (eqI 3) (L 0) (i 0))]
 (C (t 9) (S [p 7 (oMv (sC .nili))]
 R)
 xSkip))
 (S [m 1, m 2, m 3, q (oMkIf 84 (L 0)), q (oBuild (.cons (.str 0 0) (.cons (.str 0 0) (.cons .nili .nl))) [(0, 1, (L 3)), (1, 1, (L 2)), (2, 1, (L 0))]), q (oBox (L 0)), q (oMkIf 97 (L 0)), p 7 (oMv (L 0))]
 R)))
theorem eq_lf87 : lowAt 87 = some lf87 := by kernel_rfl
noncomputable def lf88 : LF := LF.mk [.tmp 3] (S [p 3 (oMv (s 0 0))]
 (S [m 1, q (oCall 174 [(L 0)]), q (oCall 173 [(L 0)]), p 3 (oMv (L 0))]
 R))
theorem eq_lf88 : lowAt 88 = some lf88 := by kernel_rfl
noncomputable def lf89 : LF := LF.mk [.tmp 3] (S [p 3 (oMv (s 0 0))]
 (S [m 1, q (oCall 175 [(L 0)]), p 3 (oMv (L 0))]
 R))
theorem eq_lf89 : lowAt 89 = some lf89 := by kernel_rfl
noncomputable def lf90 : LF := LF.mk [.tmp 9] (S [p 9 (oMv (sC (.bool false)))]
 (Q (S [m 1, q (oLenS (L 0)), m 2, q (oLt 3 Z M (L 1) (L 0)), w 0, g 0 0 false (oMv (t 1)), g 0 1 false (oLenS (L 0)), g 0 2 false (oMv (t 3)), g 0 3 false (oLt 3 Z M (L 0) (L 1)), p 20 (oPick (L 4) (sC (.bool true)) (L 0))]
 (C (t 20) (S [p 9 (oMv (sC (.bool false)))]
 R)
 xSkip))
 (Q (S [m 1, p 22 (oLenS (L 0)), p 23 (oMv (i 0))]
 (xBlock 0 (xLoop (S [p 24 (oLt 3 Z M (t 23) (t 22))]
 (Q (C (t 24) xSkip
 (xExit 0))
 (Q (xBlock 1 (S [m 23, p 10 (oMv (L 0))]
 (S [m 1, m 10, q (oIdxS (L 1) (L 0)), m 4, q (oLt 4 0 256 (L 1) (L 0)), w 0, g 0 0 false (oMv (t 1)), g 0 1 false (oMv (t 10)), g 0 2 false (oIdxS (L 1) (L 0)), g 0 3 false (oLt 4 0 256 (sC (.int 4 126)) (L 0)), p 36 (oPick (L 4) (sC (.bool true)) (L 0))]
 (C (t 36) (S [p 9 (oMv (sC (.bool false)))]
 R)
 xSkip))))
 (O [q (oAdd 3 M (t 23) (i 1)), p 23 (oMv (L 0))])))))))
 (S [p 9 (oMv (sC (.bool true)))]
 R))))
theorem eq_lf90 : lowAt 90 = some lf90 := by kernel_rfl
noncomputable def lf91 : LF := LF.mk [.tmp 3] (S [p 3 (oMv (sC (.bool false)))]
 (S [m 1, q (oCall 90 [(L 0), (i 0), (i 200), (sC (.int 4 32))]), w 0, g 0 0 true (oMv (t 1)), g 0 1 true (oCall 176 [(L 0), (s 1 32)]), g 0 2 true (oMv (t 1)), g 0 3 true (oEq eqS (L 1) (L 0)), q (oPick (L 4) (L 0) (sC (.bool false))), p 3 (oMv (L 0))]
 R))
theorem eq_lf91 : lowAt 91 = some lf91 := by kernel_rfl
noncomputable def lf92 : LF := LF.mk [.tmp 5] (S [p 5 (oMv (sC (.bool false)))]
 (S [m 1, m 2, q (oCall 177 [(L 1), (L 0)]), q (oLe 3 Z M (i 0) (L 0)), p 5 (oMv (L 0))]
 R))
theorem eq_lf92 : lowAt 92 = some lf92 := by kernel_rfl
noncomputable def lf93 : LF := LF.mk [.tmp 3] (S [p 2 (oBox (t 1)), p 3 (oMv (sC .nils))]
 (S [q (oFaddr 1 (t 2)), q (oLoadN 2 (L 0)), q (oBuildSl 1 2 (.cons (.str 0 0) (.cons (.str 0 0) .nl)) [(0, (L 0))]), q (oFaddr 3 (t 2)), q (oLoad1 (L 0)), q (oBuildSl 2 1 (.cons .nils .nl) [(0, (L 2)), (1, (L 0))]), q (oCall 178 [(L 0)]), p 3 (oMv (L 0))]
 R))
theorem eq_lf93 : lowAt 93 = some lf93 := by kernel_rfl
noncomputable def lf94 : LF := LF.mk [.tmp 3] (S [p 2 (oBox (t 1)), p 3 (oMv (sC (.bool false)))]
 (S [q (oLoadN 2 (t 2)), q (oCall 95 [(L 0)]), q (oNot (L 0)), p 3 (oMv (L 0))]
 R))
theorem eq_lf94 : lowAt 94 = some lf94 := by kernel_rfl
noncomputable def lf95 : LF := LF.mk [.tmp 3] (S [p 2 (oBox (t 1)), p 3 (oMv (sC (.bool false)))]
 (S [q (oFaddr 1 (t 2)), q (oLoad1 (L 0)), q (oCall 179 [(L 0)]), w 0, q (oExt (L 0) 0), q (oExt (L 1) 1), w 1, p 5 (oMv (L 1))]
 (S [m 5, w 0, g 0 0 true (oFaddr 0 (t 2)), g 0 1 true (oLoad1 (L 0)), g 0 2 true (oCall 172 [(L 0)]), q (oPick (L 3) (L 0) (sC (.bool false))), p 3 (oMv (L 0))]
 R)))
theorem eq_lf95 : lowAt 95 = some lf95 := by kernel_rfl
noncomputable def lf96 : LF := LF.mk [.tmp 7] (S [p 7 (oMv (sC .nili))]
 (Q (S [m 3, p 9 (oEqN (L 0))]
 (C (t 9) (S [p 7 (oMv (sC .nili))]
 R)
 xSkip))
 (S [m 1, m 2, m 3, q (oBuild (.cons (.str 0 0) (.cons (.str 0 0) (.cons .nili .nl))) [(0, 1, (L 2)), (1, 1, (L 1)), (2, 1, (L 0))]), q (oBox (L 0)), q (oMkIf 97 (L 0)), p 7 (oMv (L 0))]
 R)))
theorem eq_lf96 : lowAt 96 = some lf96 := by kernel_rfl
noncomputable def lf97 : LF := LF.mk [.tmp 5] (S [p 5 (oMv (i 0))]
 (Q (S [m 1, p 8 (oLenSl (L 0)), p 9 (oMv (i 0))]
 (xBlock 0 (xLoop (S [p 10 (oLt 3 Z M (t 9) (t 8))]
 (Q (C (t 10) xSkip
 (xExit 0))
 (Q (xBlock 1 (S [m 9, p 6 (oMv (L 0))]
 (S [m 2, m 1, m 6, q (oIaddr 1 (L 1) (L 0)), q (oLoad1 (L 0)), p 17 (oEq eqS (L 4) (L 0))]
 (C (t 17) (S [m 6, p 5 (oMv (L 0))]
 R)
 xSkip))))
 (O [q (oAdd 3 M (t 9) (i 1)), p 9 (oMv (L 0))])))))))
 (S [p 5 (oMv (i 18446744073709551615))]
 R)))
theorem eq_lf97 : lowAt 97 = some lf97 := by kernel_rfl
noncomputable def lf98 : LF := LF.mk [.tmp 7, .tmp 8] (S [p 5 (oBox (t 2)), p 7 (oMv (i 0)), p 8 (oMv (sC .nili))]
 (Q (S [m 1, q (oCall 18 [(L 0), (s 6 52099772539507)]), w 0, q (oExt (L 0) 0), q (oExt (L 1) 1), w 1, p 10 (oMv (L 1))]
 (S [m 10, p 23 (oNeN (L 0))]
 (C (t 23) (S [m 10, p 7 (oMv (i 0)), p 8 (oMv (L 1))]
 R)
 xSkip)))
 (S [m 1, q (oCall 180 [(L 0), (s 8 3415257338845160819), (i 1)]), w 0, q (oExt (L 0) 0), q (oExt (L 1) 1), p 11 (oMv (L 1)), p 12 (oMv (L 1))]
 (Q (S [m 12, p 31 (oNeN (L 0))]
 (C (t 31) (S [m 12, p 7 (oMv (i 0)), p 8 (oMv (L 1))]
 R)
 xSkip))
 (S [q (oLoadN 5 (t 5)), q (oCall 101 [(L 0)]), w 0, q (oExt (L 0) 0), q (oExt (L 1) 1), p 13 (oMv (L 1)), p 12 (oMv (L 1))]
 (Q (S [m 12, p 39 (oNeN (L 0))]
 (C (t 39) (S [m 12, p 7 (oMv (i 0)), p 8 (oMv (L 1))]
 R)
 xSkip))
 (S [m 1, m 3, q (oCall 181 [(L 1), (L 0)]), w 0, q (oExt (L 0) 0), q (oExt (L 1) 1), q (oExt (L 2) 2), p 14 (oMv (L 2)), p 15 (oMv (L 2)), p 12 (oMv (L 2))]
 (Q (S [m 12, p 49 (oNeN (L 0))]
 (C (t 49) (S [m 12, p 7 (oMv (i 0)), p 8 (oMv (L 1))]
 R)
 xSkip))
 (S [m 1, m 14, q (oCall 180 [(L 1), (s 6 52099772539507), (L 0)]), w 0, q (oExt (L 0) 0), q (oExt (L 1) 1), p 16 (oMv (L 1)), p 12 (oMv (L 1))]
 (S [m 11, m 13, q (oLenS (L 0)), q (oCall 182 [(L 0)]), q (oAdd 3 M (L 3) (L 0)), m 15, q (oAdd 3 M (L 1) (L 0)), m 16, q (oAdd 3 M (L 1) (L 0)), m 12, p 7 (oMv (L 1)), p 8 (oMv (L 1))]
 R))))))))))
theorem eq_lf98 : lowAt 98 = some lf98 := by kernel_rfl
noncomputable def lf99 : LF := LF.mk [.tmp 9] (S [p 9 (oMv (sC (.bool false)))]
 (Q (xBlock 0 (S [m 3, q (oLt 3 Z M (L 0) (i 1)), p 10 (oMv (L 0))]
 (C (t 10) (S [p 9 (oMv (sC (.bool true)))]
 R)
 (S [m 3, m 1, q (oLt 3 Z M (L 0) (L 1)), p 13 (oMv (L 0))]
 (C (t 13) (S [p 9 (oMv (sC (.bool false)))]
 R)
 (S [m 4, p 17 (oMv (L 0))]
 (C (t 17) (S [p 9 (oMv (sC (.bool true)))]
 R)
 xSkip)))))))
 (S [m 2, q (oLe 3 Z M (L 0) (i 0)), w 0, g 0 0 false (oMv (t 2)), g 0 1 false (oMv (t 1)), g 0 2 false (oLe 3 Z M (L 1) (L 0)), g 0 3 false (oMv (L 0)), g 0 0 true (oMv (t 3)), g 0 1 true (oMv (t 1)), g 0 2 true (oMv (t 2)), g 0 3 true (oSub 3 M (L 1) (L 0)), g 0 4 true (oLe 3 Z M (L 3) (L 0)), g 0 9 false (oPick (L 5) (L 0) (sC (.bool false))), q (oPick (L 10) (sC (.bool true)) (L 0)), p 9 (oMv (L 0))]
 R)))
theorem eq_lf99 : lowAt 99 = some lf99 := by kernel_rfl
noncomputable def lf100 : LF := LF.mk [.cellN 5 2, .tmp 6] (S [p 5 (oNew (.cells 2 0 (.node (.node .nil (some (.str 0 0)) .nil) (some (.str 0 0)) .nil))), p 6 (oMv (sC .nili))]
 (S [m 2, q (oCall 88 [(L 0)]), m 2, q (oCall 88 [(L 0)]), q (oBuild (.cons (.str 0 0) (.cons (.str 0 0) .nl)) [(0, 1, (L 2)), (1, 1, (L 0))]), p 7 (oNew (.cells 2 0 (.node (.node .nil (some (.str 0 0)) .nil) (some (.str 0 0)) .nil))), q (oStore 2 (L 0) (L 1))]
 (S [m 1, q (oFaddr 0 (t 7)), q (oLoad1 (L 0)), q (oCall 183 [(L 2), (L 0)]), w 0, q (oExt (L 0) 0), q (oExt (L 1) 1), p 8 (oMv (L 1)), p 9 (oMv (L 1))]
 (Q (xBlock 0 (S [m 9, q (oNeN (L 0)), p 22 (oMv (L 0))]
 (C (t 22) (S [q (oBuild (.cons (.str 0 0) (.cons (.str 0 0) .nl)) []), m 9, q (oStore 2 (t 5) (L 1)), p 6 (oMv (L 1))]
 R)
 (S [m 8, p 27 (oMv (L 0))]
 (C (t 27) (S [q (oLoadN 2 (t 7)), q (oStore 2 (t 5) (L 0)), p 6 (oMv (sC .nili))]
 R)
 xSkip)))))
 (Q (S [m 1, m 2, q (oCall 16 [(L 1), (s 10 223766819186222229122416), (L 0)]), p 9 (oMv (L 0))]
 (S [m 9, p 34 (oEqN (L 0))]
 (C (t 34) (O [m 1, q (oFaddr 0 (t 7)), q (oLoad1 (L 0)), q (oCat (s 7 13337541770113839) (L 0)), q (oCall 102 [(L 3), (s 10 223766819186222229122416), (L 0)]), p 9 (oMv (L 0))])
 xSkip)))
 (Q (S [m 9, p 41 (oNeN (L 0))]
 (C (t 41) (S [q (oBuild (.cons (.str 0 0) (.cons (.str 0 0) .nl)) []), q (oFaddr 0 (t 7)), q (oLoad1 (L 0)), m 9, q (oCall 96 [(s 4 1936023916), (L 1), (L 0)]), q (oStore 2 (t 5) (L 4)), p 6 (oMv (L 1))]
 R)
 xSkip))
 (S [q (oLoadN 2 (t 7)), q (oStore 2 (t 5) (L 0)), p 6 (oMv (sC .nili))]
 R)))))))
theorem eq_lf100 : lowAt 100 = some lf100 := by kernel_rfl
noncomputable def lf101 : LF := LF.mk [.tmp 3, .tmp 4] (S [p 2 (oBox (t 1)), p 3 (oMv (s 0 0)), p 4 (oMv (sC .nili))]
 (Q (S [q (oLoadN 5 (t 2)), q (oCall 40 [(L 0)]), p 10 (oNot (L 0))]
 (C (t 10) (S [q (oCall 87 [(s 4 1668247142), (s 0 0), (i 1)]), p 3 (oMv (s 0 0)), p 4 (oMv (L 1))]
 R)
 xSkip))
 (S [p 5 (oNew (.var 267 2 (.node (.node .nil (some .nils) .nil) (some .nilp) .nil)))]
 (S [q (oFaddr 0 (t 2)), q (oLoad1 (L 0)), q (oCat (s 8 8531350909138988576) (L 0)), q (oCat (L 0) (s 8 750805305040137248)), q (oFaddr 1 (t 2)), q (oFaddr 0 (L 0)), q (oLoad1 (L 0)), q (oCat (L 3) (L 0)), q (oCat (L 0) (s 1 32)), q (oFaddr 1 (t 2)), q (oFaddr 1 (L 0)), q (oLoad1 (L 0)), q (oCat (L 3) (L 0)), q (oCat (L 0) (s 1 10)), q (oCall 184 [(t 5), (L 0)])]
 (Q (S [q (oFaddr 3 (t 2)), p 28 (oLoad1 (L 0)), p 29 (oLenSl (L 0)), p 30 (oMv (i 0))]
 (xBlock 0 (xLoop (S [p 31 (oLt 3 Z M (t 30) (t 29))]
 (Q (C (t 31) xSkip
 (xExit 0))
 (Q (xBlock 1 (S [q (oIaddr 2 (t 28) (t 30)), q (oLoadN 2 (L 0)), p 7 (oNew (.cells 2 0 (.node (.node .nil (some (.str 0 0)) .nil) (some (.str 0 0)) .nil))), q (oStore 2 (L 0) (L 1))]
 (O [q (oFaddr 0 (t 7)), q (oLoad1 (L 0)), q (oCat (s 6 111568024133920) (L 0)), q (oCat (L 0) (s 1 32)), q (oFaddr 1 (t 7)), q (oLoad1 (L 0)), q (oCat (L 2) (L 0)), q (oCat (L 0) (s 1 10)), q (oCall 184 [(t 5), (L 0)])])))
 (O [q (oAdd 3 M (t 30) (i 1)), p 30 (oMv (L 0))])))))))
 (Q (S [q (oFaddr 4 (t 2)), q (oLoad1 (L 0)), p 46 (oNe eqS (L 0) (s 0 0))]
 (C (t 46) (O [q (oFaddr 4 (t 2)), q (oLoad1 (L 0)), q (oCat (s 8 8030046131791491872) (L 0)), q (oCat (L 0) (s 1 10)), q (oCall 184 [(t 5), (L 0)])])
 xSkip))
 (S [q (oCall 185 [(t 5)]), p 3 (oMv (L 0)), p 4 (oMv (sC .nili))]
 R)))))))
theorem eq_lf101 : lowAt 101 = some lf101 := by kernel_rfl
noncomputable def lf102 : LF := LF.mk [.tmp 7] (S [p 4 (oBox (t 1)), p 5 (oBox (t 2)), p 6 (oBox (t 3)), p 7 (oMv (sC .nili))]
 (S [q (oLoad1 (t 4)), q (oLoad1 (t 5)), q (oMkFn 186 [(t 4), (t 5), (t 6)]), q (oCall 48 [(L 2), (s 6 125779969142117), (L 1), (L 0)]), p 7 (oMv (L 0))]
 R))
theorem eq_lf102 : lowAt 102 = some lf102 := by kernel_rfl
noncomputable def lf106 : LF := LF.mk [.tmp 9] (S [p 7 (oBox (t 3)), p 9 (oMv (sC (.bool false)))]
 (xBlock 0 (xLoop (xBlock 1 (Q (S [m 1, q (oCall 107 [(L 0)]), m 4, p 20 (oInvoke [] [(270, 517)] (L 1) [(L 0)])]
 (C (t 20) (S [q (oLoadN 3 (t 7)), q (oCall 188 [(L 0)]), m 1, q (oCall 103 [(L 0)]), q (oCall 189 [(L 2), (L 0)])]
 (S [p 9 (oMv (sC (.bool true)))]
 R))
 xSkip))
 (Q (S [m 1, q (oAsrtI 549 [] (L 0)), w 0, q (oExt (L 0) 0), q (oExt (L 1) 1), p 10 (oMv (L 1)), p 11 (oMv (L 1))]
 (S [m 11, w 0, g 0 0 true (oMv (t 10)), g 0 1 true (oMv (t 2)), g 0 2 true (oInvoke [] [] (L 1) [(L 0)]), p 36 (oPick (L 3) (L 0) (sC (.bool false)))]
 (C (t 36) (S [p 9 (oMv (sC (.bool true)))]
 R)
 xSkip)))
 (S [p 37 (oMv (t 1))]
 (xBlock 2 (S [q (oAsrtI 549 [97, 478] (t 37)), p 39 (oExt (L 0) 1), p 40 (oExt (L 1) 0)]
 (C (t 39) (S [p 12 (oMv (t 40))]
 (S [m 12, q (oInvoke [] [(97, 511), (478, 529)] (L 0) []), p 1 (oMv (L 0))]
 (S [m 1, p 44 (oEqN (L 0))]
 (C (t 44) (S [p 9 (oMv (sC (.bool false)))]
 R)
 xSkip))))
 (S [q (oAsrtI 549 [] (t 37)), p 46 (oExt (L 0) 1), p 47 (oExt (L 1) 0)]
 (C (t 46) (S [p 13 (oMv (t 47))]
 (Q (S [m 13, p 49 (oInvoke [] [(97, 511), (478, 529)] (L 0) []), p 50 (oLenSl (L 0)), p 51 (oMv (i 0))]
 (xBlock 3 (xLoop (S [p 52 (oLt 3 Z M (t 51) (t 50))]
 (Q (C (t 52) xSkip
 (xExit 3))
 (Q (xBlock 4 (S [q (oIaddr 1 (t 49) (t 51)), q (oLoad1 (L 0)), p 15 (oMv (L 0))]
 (Q (S [m 15, p 56 (oEqN (L 0))]
 (C (t 56) (xExit 4)
 xSkip))
 (S [m 15, m 2, q (oLoadN 3 (t 7)), m 4, p 61 (oCall 106 [(L 3), (L 2), (L 1), (L 0)])]
 (C (t 61) (S [p 9 (oMv (sC (.bool true)))]
 R)
 xSkip)))))
 (O [q (oAdd 3 M (t 51) (i 1)), p 51 (oMv (L 0))])))))))
 (S [p 9 (oMv (sC (.bool false)))]
 R)))
 (S [m 37]
 (S [p 9 (oMv (sC (.bool false)))]
 R))))))))))))))
theorem eq_lf106 : lowAt 106 = some lf106 := by kernel_rfl
noncomputable def lf108 : LF := LF.mk [.tmp 7] (S [p 7 (oMv (sC (.bool false)))]
 (xBlock 0 (xLoop (xBlock 1 (Q (S [m 3, w 0, g 0 0 true (oMv (t 1)), g 0 1 true (oMv (t 2)), g 0 2 true (oEq (eqIfT tbT) (L 1) (L 0)), p 20 (oPick (L 3) (L 0) (sC (.bool false)))]
 (C (t 20) (S [p 7 (oMv (sC (.bool true)))]
 R)
 xSkip))
 (Q (S [m 1, q (oAsrtI 549 [] (L 0)), w 0, q (oExt (L 0) 0), q (oExt (L 1) 1), p 8 (oMv (L 1)), p 9 (oMv (L 1))]
 (S [m 9, w 0, g 0 0 true (oMv (t 8)), g 0 1 true (oMv (t 2)), g 0 2 true (oInvoke [] [] (L 1) [(L 0)]), p 31 (oPick (L 3) (L 0) (sC (.bool false)))]
 (C (t 31) (S [p 7 (oMv (sC (.bool true)))]
 R)
 xSkip)))
 (S [p 32 (oMv (t 1))]
 (xBlock 2 (S [q (oAsrtI 549 [97, 478] (t 32)), p 34 (oExt (L 0) 1), p 35 (oExt (L 1) 0)]
 (C (t 34) (S [p 10 (oMv (t 35))]
 (S [m 10, q (oInvoke [] [(97, 511), (478, 529)] (L 0) []), p 1 (oMv (L 0))]
 (S [m 1, p 39 (oEqN (L 0))]
 (C (t 39) (S [p 7 (oMv (sC (.bool false)))]
 R)
 xSkip))))
 (S [q (oAsrtI 549 [] (t 32)), p 41 (oExt (L 0) 1), p 42 (oExt (L 1) 0)]
 (C (t 41) (S [p 11 (oMv (t 42))]
 (Q (S [m 11, p 44 (oInvoke [] [(97, 511), (478, 529)] (L 0) []), p 45 (oLenSl (L 0)), p 46 (oMv (i 0))]
 (xBlock 3 (xLoop (S [p 47 (oLt 3 Z M (t 46) (t 45))]
 (Q (C (t 47) xSkip
 (xExit 3))
 (Q (xBlock 4 (S [q (oIaddr 1 (t 44) (t 46)), q (oLoad1 (L 0)), p 13 (oMv (L 0))]
 (S [m 13, m 2, m 3, p 53 (oCall 108 [(L 2), (L 1), (L 0)])]
 (C (t 53) (S [p 7 (oMv (sC (.bool true)))]
 R)
 xSkip))))
 (O [q (oAdd 3 M (t 46) (i 1)), p 46 (oMv (L 0))])))))))
 (S [p 7 (oMv (sC (.bool false)))]
 R)))
 (S [m 32]
 (S [p 7 (oMv (sC (.bool false)))]
 R))))))))))))))
theorem eq_lf108 : lowAt 108 = some lf108 := by kernel_rfl
noncomputable def lf109 : LF := LF.mk [.tmp 3] (S [p 3 (oMv (sC .nili))]
 (S [p 4 (oMv (sC .nils))]
 (Q (S [m 1, p 9 (oCall 190 [(L 0)]), p 10 (oLenSl (L 0)), p 11 (oMv (i 0))]
 (xBlock 0 (xLoop (S [p 12 (oLt 3 Z M (t 11) (t 10))]
 (Q (C (t 12) xSkip
 (xExit 0))
 (Q (xBlock 1 (S [q (oIaddr 1 (t 9) (t 11)), q (oLoad1 (L 0)), p 6 (oMv (L 0))]
 (O [m 4, m 6, m 1, q (oNilck (L 0)), q (oFaddr 2 (L 0)), q (oLoad1 (L 0)), m 6, q (oLookup false .nils false (L 1) (L 0)), q (oBuild (.cons (.int 3 0) (.cons .nils .nl)) [(0, 1, (L 6)), (1, 1, (L 0))]), q (oBuildSl 1 2 (.cons (.int 3 0) (.cons .nils .nl)) [(0, (L 0))]), q (oAppend 2 32 (L 9) (L 0)), p 4 (oMv (L 0))])))
 (O [q (oAdd 3 M (t 11) (i 1)), p 11 (oMv (L 0))])))))))
 (Q (S [m 1, q (oNilck (L 0)), q (oFaddr 0 (L 0)), q (oLoad1 (L 0)), m 4, q (oCall 191 [(L 1), (L 0)]), p 7 (oMv (L 0))]
 (S [m 7, p 34 (oNeN (L 0))]
 (C (t 34) (S [m 7, q (oCall 96 [(s 5 426835667045), (s 0 0), (L 0)]), p 3 (oMv (L 0))]
 R)
 xSkip)))
 (S [m 1, q (oNilck (L 0)), q (oFaddr 2 (L 0)), q (oLoad1 (L 0)), q (oClear (L 0))]
 (S [p 3 (oMv (sC .nili))]
 R))))))
theorem eq_lf109 : lowAt 109 = some lf109 := by kernel_rfl
noncomputable def lf110 : LF := LF.mk [] (O [m 1, q (oNilck (L 0)), q (oFaddr 2 (L 0)), q (oLoad1 (L 0)), q (oClear (L 0))])
theorem eq_lf110 : lowAt 110 = some lf110 := by kernel_rfl
noncomputable def lf111 : LF := LF.mk [.tmp 3, .tmp 4] (S [p 3 (oMv (sC .nils)), p 4 (oMv (sC .nili))]
 (S [m 1, q (oCall 192 [(L 0)]), w 0, q (oExt (L 0) 0), q (oExt (L 1) 1), p 5 (oMv (L 1)), p 6 (oMv (L 1))]
 (Q (S [m 6, p 15 (oNeN (L 0))]
 (C (t 15) (S [m 6, q (oCall 193 [(s 0 0), (L 0)]), p 3 (oMv (sC .nils)), p 4 (oMv (L 1))]
 R)
 xSkip))
 (S [p 7 (oMv (sC .nils))]
 (Q (S [m 1, q (oNilck (L 0)), q (oFaddr 3 (L 0)), p 21 (oLoad1 (L 0)), p 22 (oMv (i 0))]
 (xBlock 0 (xLoop (S [p 23 (oLt 3 Z M (t 22) (t 21))]
 (Q (C (t 23) xSkip
 (xExit 0))
 (Q (xBlock 1 (S [m 22, p 8 (oMv (L 0))]
 (S [m 5, m 8, p 27 (oCall 194 [(L 1), (L 0)])]
 (C (t 27) (O [m 7, m 1, q (oNilck (L 0)), q (oFaddr 2 (L 0)), q (oLoad1 (L 0)), m 8, q (oAdd 3 M (L 1) (L 0)), q (oBuildSl 1 1 (.cons (.int 3 0) .nl) [(0, (L 0))]), q (oAppend 1 8 (L 7) (L 0)), p 7 (oMv (L 0))])
 xSkip))))
 (O [q (oAdd 3 M (t 22) (i 1)), p 22 (oMv (L 0))])))))))
 (S [m 7, q (oCall 144 [(L 0)]), p 3 (oMv (L 0)), p 4 (oMv (sC .nili))]
 R))))))
theorem eq_lf111 : lowAt 111 = some lf111 := by kernel_rfl
noncomputable def lf112 : LF := LF.mk [.cellN 5 4, .tmp 6] (S [p 5 (oNew (.cells 4 0 (.node (.node (.node .nil (some (.int 3 0)) .nil) (some (.int 3 0)) .nil) (some (.int 3 0)) (.node .nil (some .nils) .nil)))), p 6 (oMv (sC .nili))]
 (Q (xDr [D (m 1) 2 [], D (q (oNilck (L 0))) 2 [], D (q (oFaddr 0 (L 0))) 2 [], D (q (oLoad1 (L 0))) 1 [], D (m 1) 2 [], D (q (oNilck (L 0))) 2 [], D (q (oFaddr 2 (L 0))) 2 [], D (q (oLoad1 (L 0))) 1 [], D (m 2) 2 [], D (q (oAdd 3 M (L 1) (L 0))) 2 [], D (q (oSub 3 M (L 0) (i 1))) 2 [], D (q (oCall 195 [(L 7), (L 0)])) 0 [], D (w 0) 2 [], D (q (oExt (L 0) 0)) 2 [], D (q (oExt (L 1) 1)) 2 [], D (p 7 (oMv (L 1))) 2 [], D (p 8 (oMv (L 1))) 2 []])
 (Q (S [m 8, p 27 (oNeN (L 0))]
 (C (t 27) (S [q (oBuild (.cons (.int 3 0) (.cons (.int 3 0) (.cons .nils (.cons (.int 3 0) .nl)))) []), m 8, q (oStore 4 (t 5) (L 1)), p 6 (oMv (L 1))]
 R)
 xSkip))
 (Q (xDr [D (m 7) 2 [], D (q (oIaddr 1 (L 0) (i 0))) 2 [], D (q (oLoad1 (L 0))) 1 [2, 1], D (q (oToInt 3 M (L 0))) 2 [], D (m 7) 2 [], D (q (oSlice 1 (L 0) (some (i 1)) none none)) 1 [], D (q (oCall 196 [(L 0)])) 0 [], D (q (oBuild (.cons (.int 3 0) (.cons (.int 3 0) (.cons .nils (.cons (.int 3 0) .nl)))) [(0, 1, (L 3)), (1, 1, (L 0))])) 2 [], D (p 9 (oNew (.cells 4 0 (.node (.node (.node .nil (some (.int 3 0)) .nil) (some (.int 3 0)) .nil) (some (.int 3 0)) (.node .nil (some .nils) .nil))))) 0 [], D (q (oStore 4 (L 0) (L 1))) 0 []])
 (Q (S [q (oFaddr 0 (t 9)), q (oLoad1 (L 0)), q (oLt 3 Z M (i 2) (L 0)), w 0, g 0 0 false (oFaddr 1 (t 9)), g 0 1 false (oLoad1 (L 0)), g 0 2 false (oLt 3 Z M (i 4000) (L 0)), p 45 (oPick (L 3) (sC (.bool true)) (L 0))]
 (C (t 45) (S [q (oBuild (.cons (.int 3 0) (.cons (.int 3 0) (.cons .nils (.cons (.int 3 0) .nl)))) []), q (oMkIf 84 (i 3)), q (oStore 4 (t 5) (L 1)), p 6 (oMv (L 1))]
 R)
 xSkip))
 (S [q (oFaddr 1 (t 9)), q (oLoad1 (L 0)), q (oCall 197 [(L 0)]), p 10 (oMv (L 0))]
 (S [m 7, q (oSlice 1 (L 0) (some (i 4)) none none), m 10, q (oMin 3 Z M (L 0) (i 8)), q (oCall 198 [(L 2), (L 0)]), q (oFaddr 2 (t 9)), q (oStore 1 (L 0) (L 1))]
 (Q (S [m 10, p 58 (oLt 3 Z M (i 8) (L 0))]
 (C (t 58) (S [m 7, q (oSlice 1 (L 0) (some (i 20)) none none), q (oCall 196 [(L 0)]), q (oFaddr 3 (t 9)), q (oStore 1 (L 0) (L 1))]
 (Q (Q (xDr [D (m 1) 2 [], D (q (oNilck (L 0))) 2 [], D (q (oFaddr 0 (L 0))) 2 [], D (q (oLoad1 (L 0))) 1 [], D (q (oFaddr 3 (t 9))) 2 [], D (q (oLoad1 (L 0))) 1 [], D (q (oCall 195 [(L 2), (L 0)])) 0 [], D (w 0) 2 [], D (q (oExt (L 0) 0)) 2 [], D (q (oExt (L 1) 1)) 2 [], D (p 7 (oMv (L 1))) 2 [], D (p 8 (oMv (L 1))) 2 []])
 (S [m 8, p 74 (oNeN (L 0))]
 (C (t 74) (S [q (oBuild (.cons (.int 3 0) (.cons (.int 3 0) (.cons .nils (.cons (.int 3 0) .nl)))) []), m 8, q (oStore 4 (t 5) (L 1)), p 6 (oMv (L 1))]
 R)
 xSkip)))
 (xDr [D (q (oFaddr 2 (t 9))) 2 [], D (q (oLoad1 (L 0))) 1 [3], D (m 7) 2 [], D (m 10) 2 [], D (q (oSub 3 M (L 0) (i 8))) 2 [], D (q (oCall 198 [(L 2), (L 0)])) 0 [], D (q (oAppend 1 8 (L 4) (L 0))) 0 [], D (q (oFaddr 2 (t 9))) 2 [], D (q (oStore 1 (L 0) (L 1))) 0 []])))
 xSkip))
 (S [q (oLoadN 4 (t 9)), q (oStore 4 (t 5) (L 0)), p 6 (oMv (sC .nili))]
 R)))))))))
theorem eq_lf112 : lowAt 112 = some lf112 := by kernel_rfl
noncomputable def lf113 : LF := LF.mk [.tmp 3, .tmp 4, .tmp 5] (S [p 3 (oMv (s 0 0)), p 4 (oMv (s 0 0)), p 5 (oMv (sC (.bool false)))]
 (S [m 1, q (oCall 126 [(L 0)]), w 0, q (oExt (L 0) 0), q (oExt (L 1) 1), p 6 (oMv (L 1)), p 5 (oMv (L 1))]
 (Q (S [m 5, q (oNot (L 0)), w 0, g 0 0 false (oMv (t 6)), g 0 1 false (oLenSl (L 0)), g 0 2 false (oEq (eqI 3) (L 0) (i 0)), p 19 (oPick (L 3) (sC (.bool true)) (L 0))]
 (C (t 19) (S [p 3 (oMv (s 0 0)), p 4 (oMv (s 0 0)), p 5 (oMv (sC (.bool false)))]
 R)
 xSkip))
 (S [m 6, q (oLenSl (L 0)), q (oSub 3 M (L 0) (i 1)), p 7 (oMv (L 0))]
 (S [m 6, m 7, q (oSlice 1 (L 1) none (some (L 0)) none), q (oCall 199 [(L 0)]), w 0, q (oExt (L 0) 0), q (oExt (L 1) 1), p 3 (oMv (L 1))]
 (Q (xDr [D (m 3) 2 [], D (m 6) 2 [], D (m 7) 2 [], D (q (oIaddr 1 (L 1) (L 0))) 2 [], D (q (oLoad1 (L 0))) 1 [], D (p 3 (oMv (L 4))) 2 [], D (p 4 (oMv (L 1))) 2 [], D (p 5 (oMv (sC (.bool true)))) 2 []])
 R))))))
theorem eq_lf113 : lowAt 113 = some lf113 := by kernel_rfl
noncomputable def lf114 : LF := LF.mk [.tmp 7, .tmp 8, .tmp 9] (S [p 7 (oMv (sC .nilp)), p 8 (oMv (s 0 0)), p 9 (oMv (sC .nili))]
 (Q (S [m 2, p 17 (oEq eqS (L 0) (s 1 47))]
 (C (t 17) (S [m 3, q (oMkIf 84 (L 0)), p 7 (oMv (sC .nilp)), p 8 (oMv (s 0 0)), p 9 (oMv (L 2))]
 R)
 xSkip))
 (S [m 2, q (oCall 113 [(L 0)]), w 0, q (oExt (L 0) 0), q (oExt (L 1) 1), q (oExt (L 2) 2), p 10 (oMv (L 2)), p 11 (oMv (L 2)), p 12 (oMv (L 2))]
 (Q (S [m 12, p 27 (oNot (L 0))]
 (C (t 27) (S [q (oMkIf 84 (i 10)), p 7 (oMv (sC .nilp)), p 8 (oMv (s 0 0)), p 9 (oMv (L 2))]
 R)
 xSkip))
 (S [m 1, m 10, q (oCall 57 [(L 1), (L 0)]), w 0, q (oExt (L 0) 0), q (oExt (L 1) 1), p 13 (oMv (L 1)), p 14 (oMv (L 1))]
 (Q (S [m 14, p 36 (oNeN (L 0))]
 (C (t 36) (S [m 14, p 7 (oMv (sC .nilp)), p 8 (oMv (s 0 0)), p 9 (oMv (L 2))]
 R)
 xSkip))
 (S [m 1, q (oNilck (L 0)), q (oFaddr 2 (L 0)), q (oLoad1 (L 0)), m 13, q (oCall 58 [(L 1), (L 0)]), w 0, q (oExt (L 0) 0), q (oExt (L 1) 1), p 15 (oMv (L 1)), p 14 (oMv (L 1))]
 (S [m 15, m 11, m 14, p 7 (oMv (L 2)), p 8 (oMv (L 2)), p 9 (oMv (L 2))]
 R))))))))
theorem eq_lf114 : lowAt 114 = some lf114 := by kernel_rfl
noncomputable def lf115 : LF := LF.mk [.tmp 5, .tmp 6, .tmp 7] (S [p 5 (oMv (i 0)), p 6 (oMv (sC (.bool false))), p 7 (oMv (sC .nili))]
 (S [m 1, m 2, q (oCall 122 [(L 1), (L 0)]), w 0, q (oExt (L 0) 0), q (oExt (L 1) 1), p 8 (oMv (L 1)), p 9 (oMv (L 1))]
 (Q (xBlock 0 (S [m 9, q (oMkIf 84 (i 11)), q (oCall 47 [(L 1), (L 0)]), p 16 (oMv (L 0))]
 (C (t 16) (S [p 5 (oMv (i 0)), p 6 (oMv (sC (.bool false))), p 7 (oMv (sC .nili))]
 R)
 (S [m 9, q (oNeN (L 0)), p 20 (oMv (L 0))]
 (C (t 20) (S [m 9, p 5 (oMv (i 0)), p 6 (oMv (sC (.bool false))), p 7 (oMv (L 2))]
 R)
 xSkip)))))
 (S [m 8, p 5 (oMv (L 0)), p 6 (oMv (sC (.bool true))), p 7 (oMv (sC .nili))]
 R))))
theorem eq_lf115 : lowAt 115 = some lf115 := by kernel_rfl
noncomputable def lf117 : LF := LF.mk [.tmp 13, .tmp 14] (S [p 13 (oMv (i 0)), p 14 (oMv (sC .nili))]
 (S [m 2, q (oCall 204 [(L 0)]), w 0, q (oExt (L 0) 0), q (oExt (L 1) 1), p 15 (oMv (L 1)), p 16 (oMv (L 1))]
 (Q (S [m 16, p 26 (oNeN (L 0))]
 (C (t 26) (S [m 16, p 13 (oMv (i 0)), p 14 (oMv (L 1))]
 R)
 xSkip))
 (S [m 1, q (oNilck (L 0)), q (oFaddr 2 (L 0)), q (oLoad1 (L 0)), q (oCall 51 [(L 0)]), w 0, q (oExt (L 0) 0), q (oExt (L 1) 1), p 17 (oMv (L 1)), p 16 (oMv (L 1))]
 (Q (xBlock 0 (S [m 16, q (oNeN (L 0)), p 36 (oMv (L 0))]
 (C (t 36) (S [m 16, p 13 (oMv (i 0)), p 14 (oMv (L 1))]
 R)
 (S [m 17, q (oEq (eqI 3) (L 0) (i 0)), p 40 (oMv (L 0))]
 (C (t 40) (S [q (oMkIf 84 (i 16)), p 13 (oMv (i 0)), p 14 (oMv (L 1))]
 R)
 xSkip)))))
 (Q (S [m 1, m 15, m 5, q (oCall 182 [(L 0)]), q (oAdd 3 M (L 2) (L 0)), m 6, q (oCall 202 [(L 5), (L 1), (L 0)]), p 18 (oMv (L 0))]
 (S [m 18, p 52 (oNeN (L 0))]
 (C (t 52) (S [m 18, p 13 (oMv (i 0)), p 14 (oMv (L 1))]
 R)
 xSkip)))
 (S [m 1, q (oNilck (L 0)), q (oFaddr 2 (L 0)), q (oLoad1 (L 0)), m 4, q (oCall 205 [(L 1), (L 0)]), w 0, q (oExt (L 0) 0), q (oExt (L 1) 1), p 19 (oMv (L 1)), p 16 (oMv (L 1))]
 (Q (S [m 16, p 64 (oEqN (L 0))]
 (C (t 64) (O [m 2, m 3, m 19, q (oCall 206 [(L 2), (L 1), (L 0)]), p 16 (oMv (L 0))])
 xSkip))
 (S [m 19, m 16, p 13 (oMv (L 1)), p 14 (oMv (L 1))]
 R)))))))))
theorem eq_lf117 : lowAt 117 = some lf117 := by kernel_rfl
noncomputable def lf118 : LF := LF.mk [.tmp 7] (S [p 7 (oMv (sC .nili))]
 (Q (S [m 1, q (oNilck (L 0)), q (oFaddr 2 (L 0)), q (oLoad1 (L 0)), m 2, m 3, q (oLenSl (L 0)), q (oCall 207 [(L 3), (L 2), (L 0)]), p 8 (oMv (L 0))]
 (S [m 8, p 18 (oNeN (L 0))]
 (C (t 18) (S [m 8, p 7 (oMv (L 0))]
 R)
 xSkip)))
 (S [m 1, q (oNilck (L 0)), q (oFaddr 2 (L 0)), q (oLoad1 (L 0)), m 2, m 3, q (oCall 208 [(L 2), (L 1), (i 0), (L 0)]), p 7 (oMv (L 0))]
 R)))
theorem eq_lf118 : lowAt 118 = some lf118 := by kernel_rfl
noncomputable def lf119 : LF := LF.mk [.tmp 5] (S [p 5 (oMv (sC (.bool false)))]
 (S [m 1, m 2, q (oCall 209 [(L 1), (L 0)]), q (oLe 3 Z M (i 0) (L 0)), p 5 (oMv (L 0))]
 R))
theorem eq_lf119 : lowAt 119 = some lf119 := by kernel_rfl
noncomputable def lf120 : LF := LF.mk [.tmp 4] (S [p 4 (oMv (sC (.bool false)))]
 (S [q (oLoad1 (t 2)), m 1, q (oMkIf 84 (L 0)), q (oCall 47 [(L 2), (L 0)]), p 4 (oMv (L 0))]
 R))
theorem eq_lf120 : lowAt 120 = some lf120 := by kernel_rfl
noncomputable def lf121 : LF := LF.mk [.tmp 3] (S [p 3 (oMv (sC .nili))]
 (S [q (oLoad1 (t 1)), q (oLoad1 (t 2)), q (oCall 114 [(L 1), (L 0), (i 1)]), w 0, q (oExt (L 0) 0), q (oExt (L 1) 1), q (oExt (L 2) 2), p 4 (oMv (L 2)), p 5 (oMv (L 2)), p 6 (oMv (L 2))]
 (Q (S [m 6, p 16 (oNeN (L 0))]
 (C (t 16) (S [m 6, p 3 (oMv (L 0))]
 R)
 xSkip))
 (S [m 4, m 5, q (oCall 122 [(L 1), (L 0)]), w 0, q (oExt (L 0) 0), q (oExt (L 1) 1), p 7 (oMv (L 1)), p 6 (oMv (L 1))]
 (Q (S [m 6, p 25 (oEqN (L 0))]
 (C (t 25) (O [q (oLoad1 (t 1)), m 7, q (oCall 123 [(L 1), (L 0)]), p 6 (oMv (L 0))])
 xSkip))
 (Q (S [m 6, p 30 (oEqN (L 0))]
 (C (t 30) (O [m 4, m 5, q (oCall 124 [(L 1), (L 0)]), p 6 (oMv (L 0))])
 xSkip))
 (Q (S [m 6, p 35 (oEqN (L 0))]
 (C (t 35) (O [q (oLoad1 (t 1)), m 7, q (oCall 125 [(L 1), (L 0)]), p 6 (oMv (L 0))])
 xSkip))
 (S [m 6, p 3 (oMv (L 0))]
 R))))))))
theorem eq_lf121 : lowAt 121 = some lf121 := by kernel_rfl
noncomputable def lf122 : LF := LF.mk [.tmp 5, .tmp 6] (S [p 5 (oMv (i 0)), p 6 (oMv (sC .nili))]
 (S [m 1, m 2, q (oCall 210 [(L 1), (L 0)]), w 0, q (oExt (L 0) 0), q (oExt (L 1) 1), q (oExt (L 2) 2), p 7 (oMv (L 2)), p 8 (oMv (L 2)), p 9 (oMv (L 2))]
 (Q (xBlock 0 (S [m 9, q (oNeN (L 0)), p 17 (oMv (L 0))]
 (C (t 17) (S [m 9, p 5 (oMv (i 0)), p 6 (oMv (L 1))]
 R)
 (S [m 8, q (oLt 3 Z M (L 0) (i 0)), p 21 (oMv (L 0))]
 (C (t 21) (S [m 2, q (oCall 127 [(L 0), (i 11)]), p 5 (oMv (i 0)), p 6 (oMv (L 1))]
 R)
 xSkip)))))
 (S [m 7, m 8, q (oIaddr 2 (L 1) (L 0)), q (oFaddr 1 (L 0)), q (oLoad1 (L 0)), p 5 (oMv (L 0)), p 6 (oMv (sC .nili))]
 R))))
theorem eq_lf122 : lowAt 122 = some lf122 := by kernel_rfl
noncomputable def lf123 : LF := LF.mk [.tmp 5] (S [p 5 (oMv (sC .nili))]
 (S [m 1, q (oNilck (L 0)), q (oFaddr 2 (L 0)), q (oLoad1 (L 0)), m 2, q (oCall 128 [(L 1), (L 0)]), w 0, q (oExt (L 0) 0), q (oExt (L 1) 1), p 6 (oMv (L 1)), p 7 (oMv (L 1))]
 (Q (S [m 7, q (oNeN (L 0)), w 0, g 0 0 false (oMv (t 6)), g 0 1 false (oNe (eqI 3) (L 0) (i 2)), p 23 (oPick (L 2) (sC (.bool true)) (L 0))]
 (C (t 23) (S [m 7, p 5 (oMv (L 0))]
 R)
 xSkip))
 (S [m 1, m 2, q (oCall 211 [(L 1), (L 0)]), w 0, q (oExt (L 0) 0), q (oExt (L 1) 1), p 8 (oMv (L 1)), p 7 (oMv (L 1))]
 (Q (S [m 7, q (oEqN (L 0)), w 0, g 0 0 true (oMv (t 8)), g 0 1 true (oLenSl (L 0)), g 0 2 true (oLt 3 Z M (i 0) (L 0)), p 37 (oPick (L 3) (L 0) (sC (.bool false)))]
 (C (t 37) (O [q (oMkIf 84 (i 17)), p 7 (oMv (L 0))])
 xSkip))
 (S [m 7, p 5 (oMv (L 0))]
 R))))))
theorem eq_lf123 : lowAt 123 = some lf123 := by kernel_rfl
noncomputable def lf124 : LF := LF.mk [.tmp 5] (S [p 5 (oMv (sC .nili))]
 (S [m 1, m 2, q (oCall 210 [(L 1), (L 0)]), w 0, q (oExt (L 0) 0), q (oExt (L 1) 1), q (oExt (L 2) 2), p 6 (oMv (L 2)), p 7 (oMv (L 2)), p 8 (oMv (L 2))]
 (Q (xBlock 0 (S [m 8, q (oNeN (L 0)), p 18 (oMv (L 0))]
 (C (t 18) (S [m 8, p 5 (oMv (L 0))]
 R)
 (S [m 7, q (oLt 3 Z M (L 0) (i 0)), p 22 (oMv (L 0))]
 (C (t 22) (S [m 2, q (oCall 127 [(L 0), (i 11)]), p 5 (oMv (L 0))]
 R)
 xSkip)))))
 (S [m 6, q (oLenSl (L 0)), q (oSub 3 M (L 0) (i 1)), p 9 (oMv (L 0))]
 (Q (Q (xDr [D (m 1) 2 [], D (q (oNilck (L 0))) 2 [], D (q (oFaddr 0 (L 0))) 2 [], D (q (oLoad1 (L 0))) 1 [2], D (m 1) 2 [], D (q (oNilck (L 0))) 2 [], D (q (oFaddr 1 (L 0))) 2 [], D (q (oLoad1 (L 0))) 1 [2], D (m 7) 2 [], D (q (oMul 3 M (i 32) (L 0))) 2 [], D (m 6) 2 [], D (m 9) 2 [], D (q (oIaddr 2 (L 1) (L 0))) 2 [], D (q (oLoadN 2 (L 0))) 1 [], D (q (oCall 212 [(L 0)])) 0 [], D (q (oCall 208 [(L 11), (L 7), (L 5), (L 0)])) 0 [], D (p 10 (oMv (L 0))) 2 []])
 (S [m 10, p 47 (oNeN (L 0))]
 (C (t 47) (S [m 2, m 10, q (oCall 129 [(L 1), (L 0)]), p 5 (oMv (L 0))]
 R)
 xSkip)))
 (Q (xDr [D (m 2) 2 [], D (m 1) 2 [], D (q (oNilck (L 0))) 2 [], D (q (oFaddr 0 (L 0))) 2 [], D (q (oLoad1 (L 0))) 1 [], D (m 1) 2 [], D (q (oNilck (L 0))) 2 [], D (q (oFaddr 1 (L 0))) 2 [], D (q (oLoad1 (L 0))) 1 [], D (m 9) 2 [], D (q (oMul 3 M (i 32) (L 0))) 2 [], D (q (oCall 207 [(L 6), (L 2), (L 0)])) 0 [], D (q (oCall 129 [(L 11), (L 0)])) 0 [], D (p 5 (oMv (L 0))) 2 []])
 R))))))
theorem eq_lf124 : lowAt 124 = some lf124 := by kernel_rfl
noncomputable def lf125 : LF := LF.mk [.tmp 5] (S [p 5 (oMv (sC .nili))]
 (Q (S [m 1, q (oNilck (L 0)), q (oFaddr 6 (L 0)), q (oLoad1 (L 0)), m 2, q (oLookup false (.int 3 0) false (L 1) (L 0)), p 12 (oLt 3 Z M (i 0) (L 0))]
 (C (t 12) (S [p 5 (oMv (sC .nili))]
 R)
 xSkip))
 (S [m 1, q (oNilck (L 0)), q (oFaddr 2 (L 0)), q (oLoad1 (L 0)), m 2, q (oCall 213 [(L 1), (L 0)]), p 5 (oMv (L 0))]
 R)))
theorem eq_lf125 : lowAt 125 = some lf125 := by kernel_rfl
noncomputable def lf126 : LF := LF.mk [.tmp 3, .tmp 4] (S [p 3 (oMv (sC .nils)), p 4 (oMv (sC (.bool false)))]
 (Q (S [m 1, p 7 (oEq eqS (L 0) (s 1 47))]
 (C (t 7) (S [p 3 (oMv (sC .nils)), p 4 (oMv (sC (.bool true)))]
 R)
 xSkip))
 (Q (S [m 1, q (oLenS (L 0)), q (oLt 3 Z M (i 168) (L 0)), w 0, g 0 0 false (oMv (t 1)), g 0 1 false (oCall 214 [(L 0), (s 1 47)]), g 0 2 false (oNot (L 0)), p 15 (oPick (L 3) (sC (.bool true)) (L 0))]
 (C (t 15) (S [p 3 (oMv (sC .nils)), p 4 (oMv (sC (.bool false)))]
 R)
 xSkip))
 (S [m 1, q (oSliceS (L 0) (some (i 1)) none), q (oCall 215 [(L 0), (s 1 47)]), p 5 (oMv (L 0))]
 (Q (S [m 5, q (oLenSl (L 0)), q (oLt 3 Z M (i 6) (L 0)), w 0, g 0 0 false (oMv (t 5)), g 0 1 false (oCall 216 [(L 0), (sC (.func 217 .nl))]), p 25 (oPick (L 2) (sC (.bool true)) (L 0))]
 (C (t 25) (S [p 3 (oMv (sC .nils)), p 4 (oMv (sC (.bool false)))]
 R)
 xSkip))
 (S [m 5, q (oCall 133 [(L 0)]), p 3 (oMv (L 0)), p 4 (oMv (sC (.bool true)))]
 R))))))
theorem eq_lf126 : lowAt 126 = some lf126 := by kernel_rfl
noncomputable def lf127 : LF := LF.mk [.tmp 5] (S [p 5 (oMv (sC .nili))]
 (S [m 1, m 2, q (oCall 87 [(s 3 6580594), (L 1), (L 0)]), p 5 (oMv (L 0))]
 R))
theorem eq_lf127 : lowAt 127 = some lf127 := by kernel_rfl
noncomputable def lf128 : LF := LF.mk [.tmp 5, .tmp 6] (S [p 5 (oMv (i 0)), p 6 (oMv (sC .nili))]
 (Q (S [m 1, m 2, q (oCall 218 [(L 1), (L 0)]), p 12 (oNot (L 0))]
 (C (t 12) (S [m 2, q (oCall 219 [(L 0), (i 1)]), p 5 (oMv (i 0)), p 6 (oMv (L 1))]
 R)
 xSkip))
 (S [m 1, m 2, q (oCall 112 [(L 1), (L 0)]), w 0, q (oExt (L 0) 0), q (oExt (L 1) 1), p 7 (oNew (.cells 4 0 (.node (.node (.node .nil (some (.int 3 0)) .nil) (some (.int 3 0)) .nil) (some (.int 3 0)) (.node .nil (some .nils) .nil)))), q (oStore 4 (L 0) (L 2)), p 8 (oMv (L 2))]
 (Q (xDr [D (q (oFaddr 0 (t 7))) 2 [], D (q (oLoad1 (L 0))) 1 [0], D (m 2) 2 [], D (m 8) 2 [], D (q (oCall 220 [(L 1), (L 0)])) 0 [], D (p 5 (oMv (L 3))) 2 [], D (p 6 (oMv (L 1))) 2 []])
 R))))
theorem eq_lf128 : lowAt 128 = some lf128 := by kernel_rfl
noncomputable def lf129 : LF := LF.mk [.tmp 5] (S [p 5 (oMv (sC .nili))]
 (S [m 1, m 2, q (oCall 96 [(s 3 6580594), (L 1), (L 0)]), p 5 (oMv (L 0))]
 R))
theorem eq_lf129 : lowAt 129 = some lf129 := by kernel_rfl
noncomputable def lf130 : LF := LF.mk [.cell1 3, .cell1 4] (S [p 3 (oNew (.cells 1 0 (.node .nil (some .nils) .nil))), p 4 (oNew (.cells 1 0 (.node .nil (some .nili) .nil)))]
 (Q (xDr [D (m 1) 2 [], D (q (oNilck (L 0))) 2 [], D (q (oFaddr 0 (L 0))) 2 [], D (q (oLoad1 (L 0))) 1 [], D (m 1) 2 [], D (q (oNilck (L 0))) 2 [], D (q (oFaddr 1 (L 0))) 2 [], D (q (oLoad1 (L 0))) 1 [], D (q (oCall 221 [(L 4), (L 0), (i 0), (i 4000)])) 0 [], D (w 0) 2 [], D (q (oExt (L 0) 0)) 2 [], D (q (oExt (L 1) 1)) 2 [], D (p 5 (oMv (L 1))) 2 [], D (p 6 (oMv (L 1))) 2 []])
 (Q (xBlock 0 (S [m 6, q (oNeN (L 0)), p 24 (oMv (L 0))]
 (C (t 24) (S [m 6, q (oStore 1 (t 3) (sC .nils)), q (oStore 1 (t 4) (L 1))]
 R)
 (S [m 5, q (oLenSl (L 0)), q (oRem 3 Z (L 0) (i 32)), q (oNe (eqI 3) (L 0) (i 0)), p 28 (oMv (L 0))]
 (C (t 28) (S [q (oMkIf 84 (i 3)), q (oStore 1 (t 3) (sC .nils)), q (oStore 1 (t 4) (L 1))]
 R)
 xSkip)))))
 (S [p 7 (oNew (.cells 1 0 (.node .nil (some .nils) .nil)))]
 (S [q (oMkMap), p 8 (oNew (.cells 1 0 (.node .nil (some .nilm) .nil))), q (oStore 1 (L 0) (L 1))]
 (Q (S [m 5, p 36 (oCall 222 [(L 0), (i 32)])]
 (xBlock 1 (xRf (t 36) 37 (O [p 9 (oMv (t 37))]) (xBlock 2 (S [m 9, q (oCall 223 [(L 0)]), w 0, q (oExt (L 0) 0), q (oExt (L 1) 1), p 10 (oNew (.cells 2 0 (.node (.node .nil (some (.int 3 0)) .nil) (some (.str 0 0)) .nil))), q (oStore 2 (L 0) (L 2)), p 11 (oMv (L 2))]
 (Q (S [m 11, q (oNot (L 0)), w 0, g 0 0 false (oLoad1 (t 8)), g 0 1 false (oFaddr 0 (t 10)), g 0 2 false (oLoad1 (L 0)), g 0 3 false (oLookup true (.bool false) false (L 2) (L 0)), p 50 (oPick (L 4) (sC (.bool true)) (L 0))]
 (C (t 50) (S [q (oMkIf 84 (i 3)), q (oStore 1 (t 3) (sC .nils)), q (oStore 1 (t 4) (L 1))]
 R)
 xSkip))
 (S [q (oLoad1 (t 8)), q (oFaddr 0 (t 10)), q (oLoad1 (L 0)), q (oMapSet true (L 2) (L 0) (sC (.bool true)))]
 (O [q (oLoad1 (t 7)), q (oLoadN 2 (t 10)), q (oBuildSl 1 2 (.cons (.str 0 0) (.cons (.int 3 0) .nl)) [(0, (L 0))]), q (oAppend 2 24 (L 2) (L 0)), q (oStore 1 (t 7) (L 0))]))))))))
 (S [q (oLoad1 (t 7)), q (oStore 1 (t 3) (L 0)), q (oStore 1 (t 4) (sC .nili))]
 R)))))))
theorem eq_lf130 : lowAt 130 = some lf130 := by kernel_rfl
noncomputable def lf131 : LF := LF.mk [] (S [m 1, q (oLenSl (L 0)), p 5 (oMv (L 0))]
 (O [m 1, m 5, m 5, q (oToInt 7 M (L 0)), q (oCall 225 [(L 0)]), m 2, q (oCall 224 [(L 5), (i 0), (L 4), (L 1), (L 0)])]))
theorem eq_lf131 : lowAt 131 = some lf131 := by kernel_rfl
noncomputable def lf133 : LF := LF.mk [.tmp 3] (S [p 3 (oMv (sC .nils))]
 (S [m 1, m 1, q (oLenSl (L 0)), m 1, q (oLenSl (L 0)), q (oSlice 1 (L 4) none (some (L 2)) (some (L 0))), p 3 (oMv (L 0))]
 R))
theorem eq_lf133 : lowAt 133 = some lf133 := by kernel_rfl
noncomputable def lf134 : LF := LF.mk [.tmp 3] (S [p 3 (oMv (sC .nili))]
 (S [q (oLoad1 (t 1)), q (oLoad1 (t 2)), q (oCall 135 [(L 1), (L 0), (i 2)]), p 3 (oMv (L 0))]
 R))
theorem eq_lf134 : lowAt 134 = some lf134 := by kernel_rfl
noncomputable def lf135 : LF := LF.mk [.tmp 7] (S [p 7 (oMv (sC .nili))]
 (S [m 1, m 2, q (oCall 114 [(L 1), (L 0), (i 12)]), w 0, q (oExt (L 0) 0), q (oExt (L 1) 1), q (oExt (L 2) 2), p 8 (oMv (L 2)), p 9 (oMv (L 2)), p 10 (oMv (L 2))]
 (Q (S [m 10, p 21 (oNeN (L 0))]
 (C (t 21) (S [m 10, p 7 (oMv (L 0))]
 R)
 xSkip))
 (S [m 8, m 9, q (oCall 115 [(L 1), (L 0)]), w 0, q (oExt (L 0) 0), q (oExt (L 1) 1), q (oExt (L 2) 2), w 2, p 12 (oMv (L 2)), p 10 (oMv (L 2))]
 (Q (xBlock 0 (S [m 10, q (oNeN (L 0)), p 30 (oMv (L 0))]
 (C (t 30) (S [m 10, p 7 (oMv (L 0))]
 R)
 (S [m 12, p 34 (oMv (L 0))]
 (C (t 34) (S [q (oMkIf 84 (i 12)), p 7 (oMv (L 0))]
 R)
 xSkip)))))
 (S [m 1, m 8, m 9, m 3, q (oCall 117 [(L 3), (L 2), (L 1), (L 0), (i 0), (sC (.bool false))]), w 0, q (oExt (L 0) 0), q (oExt (L 1) 1), p 10 (oMv (L 0))]
 (S [m 10, p 7 (oMv (L 0))]
 R)))))))
theorem eq_lf135 : lowAt 135 = some lf135 := by kernel_rfl
noncomputable def lf136 : LF := LF.mk [.tmp 5, .tmp 6] (S [p 5 (oMv (s 0 0)), p 6 (oMv (sC (.bool false)))]
 (S [m 1, m 2, q (oCall 227 [(L 1), (L 0)]), q (oExt (L 0) 0), q (oExt (L 1) 1), p 5 (oMv (L 1)), p 6 (oMv (L 1))]
 R))
theorem eq_lf136 : lowAt 136 = some lf136 := by kernel_rfl
noncomputable def lf137 : LF := LF.mk [.tmp 5] (S [p 5 (oMv (i 0))]
 (S [m 1, m 2, q (oCall 228 [(L 1), (L 0)]), p 5 (oMv (L 0))]
 R))
theorem eq_lf137 : lowAt 137 = some lf137 := by kernel_rfl
noncomputable def lf138 : LF := LF.mk [.cellN 3 3, .tmp 4] (S [p 3 (oNew (.cells 3 0 (.node (.node .nil (some (.int 3 0)) .nil) (some (.bool false)) (.node .nil (some (.int 3 0)) .nil)))), p 4 (oMv (sC (.bool false)))]
 (S [m 1, q (oCall 229 [(L 0), (s 1 45)]), w 0, q (oExt (L 0) 0), q (oExt (L 1) 1), q (oExt (L 2) 2), p 5 (oMv (L 2)), p 6 (oMv (L 2)), p 7 (oMv (L 2))]
 (S [q (oBuild (.cons (.bool false) (.cons (.int 3 0) (.cons (.int 3 0) .nl))) [(0, 1, (sC (.bool true)))]), p 8 (oNew (.cells 3 0 (.node (.node .nil (some (.int 3 0)) .nil) (some (.bool false)) (.node .nil (some (.int 3 0)) .nil)))), q (oStore 3 (L 0) (L 1))]
 (S [p 9 (oMv (sC (.bool false)))]
 (Q (S [m 5, q (oCall 230 [(L 0)]), w 0, q (oExt (L 0) 0), q (oExt (L 1) 1), q (oFaddr 1 (t 8)), q (oStore 1 (L 0) (L 2)), p 9 (oMv (L 2))]
 (S [m 9, p 24 (oNot (L 0))]
 (C (t 24) (S [q (oBuild (.cons (.bool false) (.cons (.int 3 0) (.cons (.int 3 0) .nl))) []), q (oStore 3 (t 3) (L 0)), p 4 (oMv (sC (.bool false)))]
 R)
 xSkip)))
 (Q (S [m 7, p 27 (oNot (L 0))]
 (C (t 27) (S [q (oLoadN 3 (t 8)), q (oStore 3 (t 3) (L 0)), p 4 (oMv (sC (.bool true)))]
 R)
 xSkip))
 (Q (S [m 6, q (oCall 230 [(L 0)]), w 0, q (oExt (L 0) 0), q (oExt (L 1) 1), q (oFaddr 2 (t 8)), q (oStore 1 (L 0) (L 2)), p 9 (oMv (L 2))]
 (S [m 9, q (oNot (L 0)), w 0, g 0 0 false (oFaddr 2 (t 8)), g 0 1 false (oLoad1 (L 0)), g 0 2 false (oEq (eqI 3) (L 0) (i 0)), p 41 (oPick (L 3) (sC (.bool true)) (L 0))]
 (C (t 41) (S [q (oBuild (.cons (.bool false) (.cons (.int 3 0) (.cons (.int 3 0) .nl))) []), q (oStore 3 (t 3) (L 0)), p 4 (oMv (sC (.bool false)))]
 R)
 xSkip)))
 (S [q (oLoadN 3 (t 8)), q (oStore 3 (t 3) (L 0)), p 4 (oMv (sC (.bool true)))]
 R))))))))
theorem eq_lf138 : lowAt 138 = some lf138 := by kernel_rfl
noncomputable def lf139 : LF := LF.mk [.cellN 5 3, .tmp 6] (S [p 3 (oBox (t 1)), p 4 (oBox (t 2)), p 5 (oNew (.cells 3 0 (.node (.node .nil (some (.int 3 0)) .nil) (some (.bool false)) (.node .nil (some (.int 3 0)) .nil)))), p 6 (oMv (sC .nili))]
 (S [p 7 (oNew (.cells 3 0 (.node (.node .nil (some (.int 3 0)) .nil) (some (.bool false)) (.node .nil (some (.int 3 0)) .nil))))]
 (S [q (oLoad1 (t 3)), q (oLoad1 (t 4)), q (oMkFn 231 [(t 3), (t 4), (t 7)]), q (oCall 48 [(L 2), (s 4 1937006964), (L 1), (L 0)]), p 8 (oMv (L 0))]
 (Q (S [m 8, p 14 (oNeN (L 0))]
 (C (t 14) (S [q (oBuild (.cons (.bool false) (.cons (.int 3 0) (.cons (.int 3 0) .nl))) []), m 8, q (oStore 3 (t 5) (L 1)), p 6 (oMv (L 1))]
 R)
 xSkip))
 (S [q (oLoadN 3 (t 7)), q (oStore 3 (t 5) (L 0)), p 6 (oMv (sC .nili))]
 R)))))
theorem eq_lf139 : lowAt 139 = some lf139 := by kernel_rfl
noncomputable def lf140 : LF := LF.mk [.tmp 5, .tmp 6] (S [p 5 (oMv (sC (.bool false))), p 6 (oMv (sC .nili))]
 (S [m 1, q (oCall 25 [(L 0)]), w 0, q (oExt (L 0) 0), q (oExt (L 1) 1), p 7 (oMv (L 1)), p 8 (oMv (L 1))]
 (Q (S [m 8, p 15 (oNeN (L 0))]
 (C (t 15) (S [m 8, p 5 (oMv (sC (.bool false))), p 6 (oMv (L 1))]
 R)
 xSkip))
 (S [m 7, q (oCall 233 [(L 0), (sC (.func 234 .nl))]), p 7 (oMv (L 0))]
 (S [m 7, q (oLenSl (L 0)), q (oEq (eqI 3) (L 0) (i 1)), w 0, g 0 0 true (oMv (t 7)), g 0 1 true (oIaddr 6 (L 0) (i 0)), g 0 2 true (oFaddr 0 (L 0)), g 0 3 true (oLoad1 (L 0)), g 0 4 true (oMv (t 2)), g 0 5 true (oEq eqS (L 1) (L 0)), q (oPick (L 6) (L 0) (sC (.bool false))), p 5 (oMv (L 0)), p 6 (oMv (sC .nili))]
 R)))))
theorem eq_lf140 : lowAt 140 = some lf140 := by kernel_rfl
noncomputable def lf141 : LF := LF.mk [.tmp 5] (S [p 5 (oMv (sC (.bool false)))]
 (S [m 1, m 2, q (oCall 235 [(L 1), (L 0)]), q (oLe 3 Z M (i 0) (L 0)), p 5 (oMv (L 0))]
 R))
theorem eq_lf141 : lowAt 141 = some lf141 := by kernel_rfl
noncomputable def lf142 : LF := LF.mk [.tmp 3] (S [p 2 (oBox (t 1)), p 3 (oMv (sC (.bool false)))]
 (S [q (oFaddr 0 (t 2)), q (oLoad1 (L 0)), q (oLt 3 Z M (L 0) (i 0)), w 0, g 0 0 false (oFaddr 1 (t 2)), g 0 1 false (oLoad1 (L 0)), g 0 2 false (oFaddr 0 (t 2)), g 0 3 false (oLoad1 (L 0)), g 0 4 false (oLt 3 Z M (L 2) (L 0)), q (oPick (L 5) (sC (.bool true)) (L 0)), w 0, g 0 0 false (oFaddr 1 (t 2)), g 0 1 false (oLoad1 (L 0)), g 0 2 false (oLt 3 Z M (i 1073741824) (L 0)), q (oPick (L 3) (sC (.bool true)) (L 0)), p 3 (oMv (L 0))]
 R))
theorem eq_lf142 : lowAt 142 = some lf142 := by kernel_rfl
noncomputable def lf143 : LF := LF.mk [.tmp 5, .tmp 6] (S [p 4 (oBox (t 2)), p 5 (oMv (sC .nils)), p 6 (oMv (sC .nili))]
 (S [p 7 (oMv (sC .nils))]
 (Q (S [q (oLoadN 5 (t 4)), p 13 (oCall 93 [(L 0)]), p 14 (oLenSl (L 0)), p 15 (oMv (i 0))]
 (xBlock 0 (xLoop (S [p 16 (oLt 3 Z M (t 15) (t 14))]
 (Q (C (t 16) xSkip
 (xExit 0))
 (Q (xBlock 1 (S [q (oIaddr 2 (t 13) (t 15)), q (oLoadN 2 (L 0)), p 9 (oNew (.cells 2 0 (.node (.node .nil (some (.str 0 0)) .nil) (some (.str 0 0)) .nil))), q (oStore 2 (L 0) (L 1))]
 (S [m 1, q (oLoadN 2 (t 9)), q (oCall 236 [(L 1), (L 0)]), w 0, q (oExt (L 0) 0), q (oExt (L 1) 1), p 10 (oMv (L 1)), p 11 (oMv (L 1))]
 (Q (S [m 11, p 26 (oNeN (L 0))]
 (C (t 26) (S [m 11, p 5 (oMv (sC .nils)), p 6 (oMv (L 1))]
 R)
 xSkip))
 (O [m 7, m 10, q (oBuildSl 1 1 (.cons .nils .nl) [(0, (L 0))]), q (oAppend 1 24 (L 2) (L 0)), p 7 (oMv (L 0))])))))
 (O [q (oAdd 3 M (t 15) (i 1)), p 15 (oMv (L 0))])))))))
 (S [m 7, m 7, q (oLenSl (L 0)), m 7, q (oLenSl (L 0)), q (oSlice 1 (L 4) none (some (L 2)) (some (L 0))), p 5 (oMv (L 0)), p 6 (oMv (sC .nili))]
 R))))
theorem eq_lf143 : lowAt 143 = some lf143 := by kernel_rfl
noncomputable def lf144 : LF := LF.mk [.tmp 3] (S [p 3 (oMv (sC .nils))]
 (S [m 1, m 1, q (oLenSl (L 0)), m 1, q (oLenSl (L 0)), q (oSlice 1 (L 4) none (some (L 2)) (some (L 0))), p 3 (oMv (L 0))]
 R))
theorem eq_lf144 : lowAt 144 = some lf144 := by kernel_rfl
noncomputable def lf145 : LF := LF.mk [.tmp 5, .tmp 6] (S [p 5 (oMv (sC .nils)), p 6 (oMv (sC (.bool false)))]
 (Q (S [m 2, q (oLenSl (L 0)), p 14 (oLt 3 Z M (i 16) (L 0))]
 (C (t 14) (S [p 5 (oMv (sC .nils)), p 6 (oMv (sC (.bool false)))]
 R)
 xSkip))
 (S [p 7 (oMv (sC .nils))]
 (Q (S [p 15 (oMv (t 2)), p 16 (oLenSl (L 0)), p 17 (oMv (i 0))]
 (xBlock 0 (xLoop (S [p 18 (oLt 3 Z M (t 17) (t 16))]
 (Q (C (t 18) xSkip
 (xExit 0))
 (Q (xBlock 1 (S [q (oIaddr 1 (t 15) (t 17)), q (oLoad1 (L 0)), p 9 (oMv (L 0))]
 (S [m 1, m 9, q (oCall 237 [(L 1), (L 0)]), w 0, q (oExt (L 0) 0), q (oExt (L 1) 1), p 10 (oMv (L 1)), p 11 (oMv (L 1))]
 (Q (S [m 11, p 28 (oNot (L 0))]
 (C (t 28) (S [p 5 (oMv (sC .nils)), p 6 (oMv (sC (.bool false)))]
 R)
 xSkip))
 (S [m 7, m 10, q (oBuildSl 1 1 (.cons (.int 3 0) .nl) [(0, (L 0))]), q (oAppend 1 8 (L 2) (L 0)), p 7 (oMv (L 0))]
 (O [m 1, m 10, m 10, m 9, q (oMax 3 Z M (L 0) (i 1)), q (oCall 239 [(L 0)]), q (oAdd 3 M (L 3) (L 0)), q (oBuild (.cons (.int 3 0) (.cons (.int 3 0) .nl)) [(0, 1, (L 5)), (1, 1, (L 0))]), q (oCall 238 [(L 7), (L 0)]), p 1 (oMv (L 0))]))))))
 (O [q (oAdd 3 M (t 17) (i 1)), p 17 (oMv (L 0))])))))))
 (S [m 7, q (oCall 144 [(L 0)]), p 5 (oMv (L 0)), p 6 (oMv (sC (.bool true)))]
 R)))))
theorem eq_lf145 : lowAt 145 = some lf145 := by kernel_rfl
noncomputable def lf146 : LF := LF.mk [.tmp 11, .tmp 12] (S [p 11 (oMv (s 0 0)), p 12 (oMv (sC .nili))]
 (S [p 13 (oMv (sC (.func 240 .nl)))]
 (Q (S [m 4, q (oLenSl (L 0)), m 5, q (oLenSl (L 0)), q (oNe (eqI 3) (L 2) (L 0)), w 0, g 0 0 false (oMv (t 4)), g 0 1 false (oMv (t 13)), g 0 2 false (oCall 241 [(L 1), (L 0)]), q (oPick (L 3) (sC (.bool true)) (L 0)), w 0, g 0 0 false (oMv (t 5)), g 0 1 false (oMv (t 13)), g 0 2 false (oCall 241 [(L 1), (L 0)]), p 31 (oPick (L 3) (sC (.bool true)) (L 0))]
 (C (t 31) (S [q (oCall 87 [(s 4 1818848869), (s 0 0), (i 1)]), p 11 (oMv (s 0 0)), p 12 (oMv (L 1))]
 R)
 xSkip))
 (S [m 1, m 2, m 3, q (oCall 242 [(L 2), (L 1), (L 0)]), p 14 (oMv (L 0))]
 (Q (S [p 15 (oMv (i 1))]
 (xBlock 0 (xLoop (Q (S [m 15, m 4, q (oLenSl (L 0)), p 40 (oLt 3 Z M (L 2) (L 0))]
 (C (t 40) xSkip
 (xExit 0)))
 (Q (xBlock 1 (xDr [D (m 14) 2 [], D (m 4) 2 [], D (m 15) 2 [], D (q (oIaddr 1 (L 1) (L 0))) 2 [], D (q (oLoad1 (L 0))) 1 [], D (q (oCall 89 [(L 0)])) 0 [], D (q (oCat (s 6 111568024133949) (L 0))) 2 [], D (q (oCat (L 0) (s 1 58))) 2 [], D (m 5) 2 [], D (m 15) 2 [], D (q (oIaddr 1 (L 1) (L 0))) 2 [], D (q (oLoad1 (L 0))) 1 [12], D (q (oCall 89 [(L 0)])) 0 [], D (q (oCat (L 5) (L 0))) 2 [], D (q (oBuildSl 1 1 (.cons (.str 0 0) .nl) [(0, (L 0))])) 0 [], D (q (oAppend 1 16 (L 14) (L 0))) 0 [], D (p 14 (oMv (L 0))) 2 []]))
 (O [m 15, q (oAdd 3 M (L 0) (i 1)), p 15 (oMv (L 0))]))))))
 (S [m 14, q (oCall 243 [(L 0), (s 1 32)]), p 16 (oMv (L 0))]
 (Q (S [m 16, q (oLenS (L 0)), p 63 (oLt 3 Z M (i 400) (L 0))]
 (C (t 63) (S [q (oCall 87 [(s 4 1818848869), (s 0 0), (i 5)]), p 11 (oMv (s 0 0)), p 12 (oMv (L 1))]
 R)
 xSkip))
 (S [m 16, p 11 (oMv (L 0)), p 12 (oMv (sC .nili))]
 R))))))))
theorem eq_lf146 : lowAt 146 = some lf146 := by kernel_rfl
noncomputable def lf147 : LF := LF.mk [.tmp 3] (S [p 2 (oBox (t 1)), p 3 (oMv (i 0))]
 (Q (xBlock 0 (S [q (oFaddr 0 (t 2)), q (oLoad1 (L 0)), q (oNot (L 0)), p 4 (oMv (L 0))]
 (C (t 4) (S [p 3 (oMv (i 0))]
 R)
 (S [q (oFaddr 1 (t 2)), q (oLoad1 (L 0)), q (oLt 3 Z M (i 0) (L 0)), p 8 (oMv (L 0))]
 (C (t 8) (S [p 3 (oMv (i 1))]
 R)
 xSkip)))))
 (S [p 3 (oMv (i 2))]
 R)))
theorem eq_lf147 : lowAt 147 = some lf147 := by kernel_rfl
noncomputable def lf148 : LF := LF.mk [.tmp 5, .tmp 6] (S [p 3 (oBox (t 1)), p 4 (oBox (t 2)), p 5 (oMv (sC .nils)), p 6 (oMv (sC .nili))]
 (S [p 7 (oNew (.cells 1 0 (.node .nil (some .nils) .nil)))]
 (S [q (oLoad1 (t 3)), q (oLoad1 (t 4)), q (oMkFn 244 [(t 3), (t 4), (t 7)]), q (oCall 48 [(L 2), (s 3 6776180), (L 1), (L 0)]), p 8 (oMv (L 0))]
 (Q (S [m 8, p 14 (oNeN (L 0))]
 (C (t 14) (S [m 8, p 5 (oMv (sC .nils)), p 6 (oMv (L 1))]
 R)
 xSkip))
 (S [q (oLoad1 (t 7)), p 5 (oMv (L 0)), p 6 (oMv (sC .nili))]
 R)))))
theorem eq_lf148 : lowAt 148 = some lf148 := by kernel_rfl
noncomputable def lf149 : LF := LF.mk [.cellN 3 5, .cell1 4] (S [p 3 (oNew (.cells 5 0 (.node (.node (.node .nil (some .nils) .nil) (some (.str 0 0)) .nil) (some (.str 0 0)) (.node (.node .nil (some (.str 0 0)) .nil) (some (.str 0 0)) .nil)))), p 4 (oNew (.cells 1 0 (.node .nil (some .nili) .nil)))]
 (Q (S [m 1, q (oLenS (L 0)), p 10 (oLt 3 Z M (i 2000) (L 0))]
 (C (t 10) (S [q (oBuild (.cons (.str 0 0) (.cons (.str 0 0) (.cons (.str 0 0) (.cons .nils (.cons (.str 0 0) .nl))))) []), q (oCall 87 [(s 4 1668247142), (s 0 0), (i 2)]), q (oStore 5 (t 3) (L 1)), q (oStore 1 (t 4) (L 1))]
 R)
 xSkip))
 (S [p 5 (oNew (.cells 5 0 (.node (.node (.node .nil (some .nils) .nil) (some (.str 0 0)) .nil) (some (.str 0 0)) (.node (.node .nil (some (.str 0 0)) .nil) (some (.str 0 0)) .nil))))]
 (S [p 6 (oNew (.cells 1 0 (.node .nil (some (.int 3 0)) .nil))), q (oStore 1 (L 0) (i 0))]
 (Q (S [m 1, p 14 (oCall 245 [(L 0), (s 1 10)])]
 (xBlock 0 (xRf (t 14) 15 (O [p 7 (oMv (t 15))]) (xBlock 1 (S [q (oLoad1 (t 6)), q (oAdd 3 M (L 0) (i 1)), q (oStore 1 (t 6) (L 0))]
 (S [m 7, q (oNe eqS (L 0) (s 0 0)), w 0, g 0 0 true (oMv (t 7)), g 0 1 true (oIdxS (L 0) (i 0)), g 0 2 true (oNe (eqI 4) (L 0) (sC (.int 4 35))), q (oPick (L 3) (L 0) (sC (.bool false))), w 0, g 0 0 true (oMv (t 7)), g 0 1 true (oCall 246 [(t 5), (L 0)]), g 0 2 true (oNot (L 0)), p 29 (oPick (L 3) (L 0) (sC (.bool false)))]
 (C (t 29) (S [q (oBuild (.cons (.str 0 0) (.cons (.str 0 0) (.cons (.str 0 0) (.cons .nils (.cons (.str 0 0) .nl))))) []), q (oLoad1 (t 6)), q (oCall 89 [(L 0)]), q (oCall 87 [(s 4 1668247142), (L 0), (i 30)]), q (oStore 5 (t 3) (L 3)), q (oStore 1 (t 4) (L 1))]
 R)
 xSkip)))))))
 (Q (S [q (oFaddr 0 (t 5)), q (oLoad1 (L 0)), q (oEq eqS (L 0) (s 0 0)), w 0, g 0 0 false (oFaddr 1 (t 5)), g 0 1 false (oFaddr 0 (L 0)), g 0 2 false (oLoad1 (L 0)), g 0 3 false (oEq eqS (L 0) (s 0 0)), p 42 (oPick (L 4) (sC (.bool true)) (L 0))]
 (C (t 42) (S [q (oBuild (.cons (.str 0 0) (.cons (.str 0 0) (.cons (.str 0 0) (.cons .nils (.cons (.str 0 0) .nl))))) []), q (oCall 87 [(s 4 1668247142), (s 1 48), (i 30)]), q (oStore 5 (t 3) (L 1)), q (oStore 1 (t 4) (L 1))]
 R)
 xSkip))
 (S [q (oFaddr 3 (t 5)), q (oLoad1 (L 0)), q (oCall 247 [(L 0)]), q (oFaddr 3 (t 5)), q (oStore 1 (L 0) (L 1))]
 (S [q (oLoadN 5 (t 5)), q (oStore 5 (t 3) (L 0)), q (oStore 1 (t 4) (sC .nili))]
 R))))))))
theorem eq_lf149 : lowAt 149 = some lf149 := by kernel_rfl
noncomputable def lf150 : LF := LF.mk [.tmp 3] (S [p 3 (oMv (sC .nils))]
 (Q (S [m 1, p 5 (oEq eqSl (L 0) (sC .nils))]
 (C (t 5) (S [p 3 (oMv (sC .nils))]
 R)
 xSkip))
 (S [q (oBuildSl 0 6 (.cons (.str 0 0) (.cons (.str 0 0) (.cons (.bool false) (.cons (.int 3 0) (.cons (.int 3 0) (.cons (.str 0 0) .nl)))))) []), m 1, q (oAppend 6 72 (L 1) (L 0)), p 3 (oMv (L 0))]
 R)))
theorem eq_lf150 : lowAt 150 = some lf150 := by kernel_rfl
noncomputable def lf151 : LF := LF.mk [] (O [m 1, m 1, q (oLenSl (L 0)), m 2, q (oCall 248 [(L 3), (L 1), (L 0)])])
theorem eq_lf151 : lowAt 151 = some lf151 := by kernel_rfl
noncomputable def lf154 : LF := LF.mk [.tmp 3, .tmp 4] (S [p 3 (oMv (s 0 0)), p 4 (oMv (sC .nili))]
 (Q (S [m 1, p 8 (oEq eqP2 (L 0) (sC .nilp))]
 (C (t 8) (S [q (oCall 66 [(s 0 0), (i 1)]), p 3 (oMv (s 0 0)), p 4 (oMv (L 1))]
 R)
 xSkip))
 (S [m 1, q (oCall 148 [(L 0), (s 5 203681788788)]), w 0, q (oExt (L 0) 0), q (oExt (L 1) 1), p 5 (oMv (L 1)), p 6 (oMv (L 1))]
 (Q (xDr [D (m 5) 2 [], D (q (oBsToStr (L 0))) 1 [0], D (m 6) 2 [], D (q (oCall 68 [(s 0 0), (L 0)])) 0 [], D (p 3 (oMv (L 2))) 2 [], D (p 4 (oMv (L 1))) 2 []])
 R))))
theorem eq_lf154 : lowAt 154 = some lf154 := by kernel_rfl
noncomputable def lf155 : LF := LF.mk [.tmp 5, .tmp 6] (S [p 5 (oMv (sC (.bool false))), p 6 (oMv (sC .nili))]
 (S [m 1, m 2, q (oCall 139 [(L 1), (L 0)]), w 0, q (oExt (L 0) 0), q (oExt (L 1) 1), q (oNew (.cells 3 0 (.node (.node .nil (some (.int 3 0)) .nil) (some (.bool false)) (.node .nil (some (.int 3 0)) .nil)))), q (oStore 3 (L 0) (L 2)), p 8 (oMv (L 2))]
 (Q (S [m 8, q (oMkIf 84 (i 11)), q (oCall 47 [(L 1), (L 0)]), w 0, g 0 0 false (oMv (t 8)), g 0 1 false (oMkIf 84 (i 14)), g 0 2 false (oCall 47 [(L 1), (L 0)]), q (oPick (L 3) (sC (.bool true)) (L 0)), w 0, g 0 0 false (oMv (t 8)), g 0 1 false (oMkIf 84 (i 10)), g 0 2 false (oCall 47 [(L 1), (L 0)]), p 27 (oPick (L 3) (sC (.bool true)) (L 0))]
 (C (t 27) (S [p 5 (oMv (sC (.bool false))), p 6 (oMv (sC .nili))]
 R)
 xSkip))
 (S [m 8, q (oEqN (L 0)), m 8, p 5 (oMv (L 1)), p 6 (oMv (L 1))]
 R))))
theorem eq_lf155 : lowAt 155 = some lf155 := by kernel_rfl
noncomputable def lf156 : LF := LF.mk [.tmp 3] (S [p 2 (oBox (t 1)), p 3 (oMv (sC (.bool false)))]
 (S [q (oFaddr 2 (t 2)), q (oLoadN 3 (L 0)), q (oCall 147 [(L 0)]), p 4 (oMv (L 0))]
 (S [m 4, q (oEq (eqI 3) (L 0) (i 0)), w 0, g 0 0 false (oMv (t 4)), g 0 1 false (oEq (eqI 3) (L 0) (i 1)), q (oPick (L 2) (sC (.bool true)) (L 0)), p 3 (oMv (L 0))]
 R)))
theorem eq_lf156 : lowAt 156 = some lf156 := by kernel_rfl
noncomputable def lf157 : LF := LF.mk [.cellN 7 6, .tmp 8] (S [p 5 (oBox (t 2)), p 6 (oBox (t 3)), p 7 (oNew (.cells 6 0 (.node (.node (.node .nil (some .nils) .nil) (some (.bool false)) (.node .nil (some .nils) .nil)) (some (.str 0 0)) (.node (.node .nil (some (.str 0 0)) .nil) (some .nils) .nil)))), p 8 (oMv (sC .nili))]
 (S [q (oFaddr 0 (t 5)), q (oLoad1 (L 0)), q (oLoadN 4 (t 6)), q (oBuild (.cons (.str 0 0) (.cons (.bool false) (.cons .nils (.cons .nils (.cons (.str 0 0) (.cons .nils .nl)))))) [(0, 1, (L 1)), (2, 4, (L 0))]), p 9 (oNew (.cells 6 0 (.node (.node (.node .nil (some .nils) .nil) (some (.bool false)) (.node .nil (some .nils) .nil)) (some (.str 0 0)) (.node (.node .nil (some (.str 0 0)) .nil) (some .nils) .nil)))), q (oStore 6 (L 0) (L 1))]
 (Q (S [q (oFaddr 2 (t 5)), q (oLoadN 3 (L 0)), q (oCall 147 [(L 0)]), p 21 (oEq (eqI 3) (L 0) (i 1))]
 (C (t 21) (S [q (oFaddr 2 (t 5)), q (oLoadN 3 (L 0)), q (oCall 85 [(L 0)]), w 0, q (oExt (L 0) 0), q (oExt (L 1) 1), p 10 (oNew (.cells 3 0 (.node (.node .nil (some (.int 3 0)) .nil) (some (.bool false)) (.node .nil (some (.int 3 0)) .nil)))), q (oStore 3 (L 0) (L 2)), w 2]
 (S [q (oFaddr 1 (t 5)), q (oLoad1 (L 0)), q (oLoadN 3 (t 10)), q (oCall 39 [(L 1), (L 0)]), q (oFaddr 0 (t 9)), q (oStore 1 (L 0) (L 1)), q (oFaddr 1 (t 9)), q (oStore 1 (L 0) (sC (.bool true)))]
 (S [m 1, q (oFaddr 0 (t 5)), q (oLoad1 (L 0)), q (oCat (s 9 874305878744361169711) (L 0)), q (oFaddr 0 (t 9)), q (oLoad1 (L 0)), q (oCat (s 9 874305878744361169711) (L 0)), q (oCall 102 [(L 6), (L 3), (L 0)]), p 12 (oMv (L 0))]
 (S [m 12, p 43 (oNeN (L 0))]
 (C (t 43) (S [q (oBuild (.cons (.str 0 0) (.cons (.bool false) (.cons .nils (.cons .nils (.cons (.str 0 0) (.cons .nils .nl)))))) []), m 12, q (oStore 6 (t 7) (L 1)), p 8 (oMv (L 1))]
 R)
 xSkip)))))
 xSkip))
 (Q (S [m 1, q (oFaddr 0 (t 9)), q (oLoad1 (L 0)), q (oStrToBs (L 0)), q (oCall 252 [(L 3), (s 5 203681788788), (L 0)]), p 13 (oMv (L 0))]
 (S [m 13, p 52 (oNeN (L 0))]
 (C (t 52) (S [q (oBuild (.cons (.str 0 0) (.cons (.bool false) (.cons .nils (.cons .nils (.cons (.str 0 0) (.cons .nils .nl)))))) []), m 13, q (oStore 6 (t 7) (L 1)), p 8 (oMv (L 1))]
 R)
 xSkip)))
 (S [q (oLoadN 6 (t 9)), q (oStore 6 (t 7) (L 0)), p 8 (oMv (sC .nili))]
 R)))))
theorem eq_lf157 : lowAt 157 = some lf157 := by kernel_rfl
noncomputable def lf162 : LF := LF.mk [.tmp 7, .tmp 8] (S [p 7 (oMv (sC .nilp)), p 8 (oMv (sC .nili))]
 (Q (S [m 1, p 15 (oEq eqP2 (L 0) (sC .nilp))]
 (C (t 15) (S [q (oMkIf 84 (i 1)), p 7 (oMv (sC .nilp)), p 8 (oMv (L 1))]
 R)
 xSkip))
 (S [m 1, q (oCall 256 [(L 0)]), m 2, q (oCall 255 [(L 1), (L 0)]), w 0, q (oExt (L 0) 0), q (oExt (L 1) 1), p 9 (oMv (L 1)), p 10 (oMv (L 1))]
 (Q (S [m 10, q (oNot (L 0)), w 0, g 0 0 false (oMv (t 3)), g 0 1 false (oLt 3 Z M (L 0) (i 0)), q (oPick (L 2) (sC (.bool true)) (L 0)), w 0, g 0 0 false (oMv (t 3)), g 0 1 false (oMv (t 9)), g 0 2 false (oSub 3 M (L 0) (i 8)), g 0 3 false (oMin 3 Z M (i 64) (L 0)), g 0 4 false (oLt 3 Z M (L 0) (L 3)), p 36 (oPick (L 5) (sC (.bool true)) (L 0))]
 (C (t 36) (S [q (oMkIf 84 (i 1)), p 7 (oMv (sC .nilp)), p 8 (oMv (L 1))]
 R)
 xSkip))
 (Q (S [m 1, m 2, q (oCall 257 [(L 1), (L 0)]), p 11 (oMv (L 0))]
 (S [m 11, p 42 (oNeN (L 0))]
 (C (t 42) (S [m 11, p 7 (oMv (sC .nilp)), p 8 (oMv (L 1))]
 R)
 xSkip)))
 (S [m 1, m 2, m 3, q (oCall 258 [(L 2), (L 1), (L 0)]), w 0, q (oExt (L 0) 0), q (oExt (L 1) 1), p 12 (oMv (L 1)), p 13 (oMv (L 1))]
 (Q (S [m 13, p 52 (oEqN (L 0))]
 (C (t 52) (O [m 12, q (oNilck (L 0)), q (oFaddr 2 (L 0)), q (oLoad1 (L 0)), q (oCall 205 [(L 0), (i 2)]), w 0, q (oExt (L 0) 0), q (oExt (L 1) 1), p 13 (oMv (L 0))])
 xSkip))
 (Q (S [m 13, p 62 (oEqN (L 0))]
 (C (t 62) (O [m 12, q (oNilck (L 0)), q (oFaddr 0 (L 0)), q (oLoad1 (L 0)), q (oCall 109 [(L 0)]), p 13 (oMv (L 0))])
 xSkip))
 (Q (S [m 13, p 69 (oEqN (L 0))]
 (C (t 69) (O [m 1, m 2, m 3, q (oCall 260 [(L 1), (L 0)]), q (oCall 259 [(L 3), (i 0), (L 0)]), p 13 (oMv (L 0))])
 xSkip))
 (S [m 12, m 13, p 7 (oMv (L 1)), p 8 (oMv (L 1))]
 R))))))))))
theorem eq_lf162 : lowAt 162 = some lf162 := by kernel_rfl
noncomputable def lf163 : LF := LF.mk [.tmp 5, .tmp 6] (S [p 5 (oMv (i 0)), p 6 (oMv (sC (.bool false)))]
 (Q (S [m 1, q (oLt 3 Z M (L 0) (i 128)), w 0, g 0 0 false (oMv (t 1)), g 0 1 false (oLt 3 Z M (i 2048) (L 0)), q (oPick (L 2) (sC (.bool true)) (L 0)), w 0, g 0 0 false (oMv (t 2)), g 0 1 false (oLt 3 Z M (L 0) (i 8)), q (oPick (L 2) (sC (.bool true)) (L 0)), w 0, g 0 0 false (oMv (t 2)), g 0 1 false (oLt 3 Z M (i 200) (L 0)), p 21 (oPick (L 2) (sC (.bool true)) (L 0))]
 (C (t 21) (S [p 5 (oMv (i 0)), p 6 (oMv (sC (.bool false)))]
 R)
 xSkip))
 (S [m 1, q (oSub 3 M (L 0) (i 96)), m 2, q (oSub 3 M (L 1) (L 0)), m 1, q (oAdd 3 M (L 0) (i 1023)), q (oQuo 3 Z (L 0) (i 1024)), q (oSub 3 M (L 3) (L 0)), p 7 (oMv (L 0))]
 (Q (S [m 7, p 31 (oLt 3 Z M (L 0) (i 8))]
 (C (t 31) (S [p 5 (oMv (i 0)), p 6 (oMv (sC (.bool false)))]
 R)
 xSkip))
 (S [m 7, p 5 (oMv (L 0)), p 6 (oMv (sC (.bool true)))]
 R)))))
theorem eq_lf163 : lowAt 163 = some lf163 := by kernel_rfl
noncomputable def lf164 : LF := LF.mk [.tmp 3, .tmp 4] (S [p 3 (oMv (sC .nils)), p 4 (oMv (sC (.bool false)))]
 (Q (S [m 1, p 9 (oEq eqS (L 0) (s 1 47))]
 (C (t 9) (S [p 3 (oMv (sC .nils)), p 4 (oMv (sC (.bool true)))]
 R)
 xSkip))
 (Q (S [m 1, q (oEq eqS (L 0) (s 0 0)), w 0, g 0 0 false (oMv (t 1)), g 0 1 false (oIdxS (L 0) (i 0)), g 0 2 false (oNe (eqI 4) (L 0) (sC (.int 4 47))), q (oPick (L 3) (sC (.bool true)) (L 0)), w 0, g 0 0 false (oMv (t 1)), g 0 1 false (oLenS (L 0)), g 0 2 false (oLt 3 Z M (i 1000) (L 0)), p 21 (oPick (L 3) (sC (.bool true)) (L 0))]
 (C (t 21) (S [p 3 (oMv (sC .nils)), p 4 (oMv (sC (.bool false)))]
 R)
 xSkip))
 (S [p 5 (oMv (sC .nils))]
 (S [p 6 (oMv (s 0 0))]
 (Q (S [p 7 (oMv (i 1))]
 (xBlock 0 (xLoop (Q (S [m 7, m 1, q (oLenS (L 0)), p 25 (oLe 3 Z M (L 2) (L 0))]
 (C (t 25) xSkip
 (xExit 0)))
 (Q (xBlock 1 (Q (S [m 7, m 1, q (oLenS (L 0)), q (oLt 3 Z M (L 2) (L 0)), w 0, g 0 0 true (oMv (t 1)), g 0 1 true (oMv (t 7)), g 0 2 true (oIdxS (L 1) (L 0)), g 0 3 true (oNe (eqI 4) (L 0) (sC (.int 4 47))), p 37 (oPick (L 4) (L 0) (sC (.bool false)))]
 (C (t 37) (S [m 6, m 1, m 7, m 7, q (oAdd 3 M (L 0) (i 1)), q (oSliceS (L 3) (some (L 2)) (some (L 0))), q (oCat (L 5) (L 0)), p 6 (oMv (L 0))]
 (xExit 1))
 xSkip))
 (Q (S [m 6, q (oCall 261 [(L 0)]), q (oNot (L 0)), w 0, g 0 0 false (oMv (t 5)), g 0 1 false (oLenSl (L 0)), g 0 2 false (oEq (eqI 3) (L 0) (i 6)), p 52 (oPick (L 3) (sC (.bool true)) (L 0))]
 (C (t 52) (S [p 3 (oMv (sC .nils)), p 4 (oMv (sC (.bool false)))]
 R)
 xSkip))
 (S [m 5, m 6, q (oBuildSl 1 1 (.cons (.str 0 0) .nl) [(0, (L 0))]), q (oAppend 1 16 (L 2) (L 0)), p 5 (oMv (L 0))]
 (O [p 6 (oMv (s 0 0))])))))
 (O [m 7, q (oAdd 3 M (L 0) (i 1)), p 7 (oMv (L 0))]))))))
 (S [m 5, p 3 (oMv (L 0)), p 4 (oMv (sC (.bool true)))]
 R)))))))
theorem eq_lf164 : lowAt 164 = some lf164 := by kernel_rfl
noncomputable def lf165 : LF := LF.mk [.tmp 5, .tmp 6] (S [p 5 (oMv (s 0 0)), p 6 (oMv (i 0))]
 (S [m 2, q (oCall 262 [(L 0)]), w 0, q (oExt (L 0) 0), q (oExt (L 1) 1), q (oExt (L 2) 2), p 7 (oMv (L 2)), w 2, w 2]
 (S [m 1, m 7, q (oCall 263 [(L 1), (L 0)]), w 0, q (oExt (L 0) 0), q (oExt (L 1) 1), p 10 (oMv (L 1)), p 11 (oMv (L 1))]
 (Q (S [m 11, p 25 (oNe (eqI 3) (L 0) (i 0))]
 (C (t 25) (S [m 11, p 5 (oMv (s 0 0)), p 6 (oMv (L 1))]
 R)
 xSkip))
 (Q (S [m 1, q (oNilck (L 0)), q (oFaddr 3 (L 0)), q (oLoad1 (L 0)), m 10, q (oIaddr 5 (L 1) (L 0)), q (oFaddr 1 (L 0)), q (oLoad1 (L 0)), p 35 (oNot (L 0))]
 (C (t 35) (S [p 5 (oMv (s 0 0)), p 6 (oMv (i 14))]
 R)
 xSkip))
 (S [m 7, p 5 (oMv (L 0)), p 6 (oMv (i 0))]
 R))))))
theorem eq_lf165 : lowAt 165 = some lf165 := by kernel_rfl
noncomputable def lf166 : LF := LF.mk [.tmp 5] (S [p 5 (oMv (i 0))]
 (Q (S [p 6 (oMv (i 0))]
 (xBlock 0 (xLoop (Q (S [m 6, m 1, q (oNilck (L 0)), q (oFaddr 3 (L 0)), q (oLoad1 (L 0)), q (oLenSl (L 0)), p 13 (oLt 3 Z M (L 5) (L 0))]
 (C (t 13) xSkip
 (xExit 0)))
 (Q (xBlock 1 (S [m 1, q (oNilck (L 0)), q (oFaddr 3 (L 0)), q (oLoad1 (L 0)), m 6, q (oIaddr 5 (L 1) (L 0)), q (oFaddr 0 (L 0)), q (oLoad1 (L 0)), m 2, p 25 (oEq eqS (L 1) (L 0))]
 (C (t 25) (S [m 6, p 5 (oMv (L 0))]
 R)
 xSkip)))
 (O [m 6, q (oAdd 3 M (L 0) (i 1)), p 6 (oMv (L 0))]))))))
 (S [p 5 (oMv (i 18446744073709551615))]
 R)))
theorem eq_lf166 : lowAt 166 = some lf166 := by kernel_rfl
noncomputable def lf167 : LF := LF.mk [.tmp 5] (S [p 5 (oMv (sC .nils))]
 (S [p 6 (oMv (sC .nils))]
 (Q (S [p 7 (oMv (i 0))]
 (xBlock 0 (xLoop (Q (S [m 7, m 1, q (oNilck (L 0)), q (oFaddr 3 (L 0)), q (oLoad1 (L 0)), q (oLenSl (L 0)), p 18 (oLt 3 Z M (L 5) (L 0))]
 (C (t 18) xSkip
 (xExit 0)))
 (Q (xBlock 1 (Q (S [m 1, q (oNilck (L 0)), q (oFaddr 3 (L 0)), q (oLoad1 (L 0)), m 7, q (oIaddr 5 (L 1) (L 0)), q (oFaddr 0 (L 0)), q (oLoad1 (L 0)), p 29 (oEq eqS (L 0) (s 0 0))]
 (C (t 29) (xExit 1)
 xSkip))
 (S [m 1, q (oNilck (L 0)), q (oFaddr 3 (L 0)), q (oLoad1 (L 0)), m 7, q (oIaddr 5 (L 1) (L 0)), q (oFaddr 0 (L 0)), q (oLoad1 (L 0)), q (oCall 262 [(L 0)]), w 0, q (oExt (L 0) 0), q (oExt (L 1) 1), q (oExt (L 2) 2), p 8 (oMv (L 2)), p 9 (oMv (L 2)), p 10 (oMv (L 2))]
 (Q (S [m 10, q (oNot (L 0)), w 0, g 0 0 false (oMv (t 8)), g 0 1 false (oMv (t 2)), g 0 2 false (oNe eqS (L 1) (L 0)), p 49 (oPick (L 3) (sC (.bool true)) (L 0))]
 (C (t 49) (xExit 1)
 xSkip))
 (S [p 11 (oMv (i 0))]
 (Q (xBlock 2 (xLoop (Q (S [m 11, m 6, q (oLenSl (L 0)), q (oLt 3 Z M (L 2) (L 0)), w 0, g 0 0 true (oMv (t 6)), g 0 1 true (oMv (t 11)), g 0 2 true (oIaddr 1 (L 1) (L 0)), g 0 3 true (oLoad1 (L 0)), g 0 4 true (oMv (t 9)), g 0 5 true (oLtS (L 1) (L 0)), p 61 (oPick (L 6) (L 0) (sC (.bool false)))]
 (C (t 61) xSkip
 (xExit 2)))
 (xBlock 3 (O [m 11, q (oAdd 3 M (L 0) (i 1)), p 11 (oMv (L 0))])))))
 (xDr [D (q (oBuildSl 0 1 (.cons (.str 0 0) .nl) [])) 0 [], D (m 6) 2 [], D (m 11) 2 [], D (q (oSlice 1 (L 1) none (some (L 0)) none)) 1 [13], D (q (oAppend 1 16 (L 3) (L 0))) 0 [], D (m 9) 2 [], D (q (oBuildSl 1 1 (.cons (.str 0 0) .nl) [(0, (L 0))])) 0 [], D (q (oAppend 1 16 (L 2) (L 0))) 0 [], D (m 6) 2 [], D (m 11) 2 [], D (q (oSlice 1 (L 1) (some (L 0)) none none)) 1 [13, 9, 7, 6], D (q (oAppend 1 16 (L 3) (L 0))) 0 [], D (p 6 (oMv (L 0))) 2 []])))))))
 (O [m 7, q (oAdd 3 M (L 0) (i 1)), p 7 (oMv (L 0))]))))))
 (S [m 6, p 5 (oMv (L 0))]
 R))))
theorem eq_lf167 : lowAt 167 = some lf167 := by kernel_rfl
noncomputable def lf168 : LF := LF.mk [.tmp 9] (S [p 9 (oMv (sC (.bool false)))]
 (Q (xBlock 0 (S [m 3, q (oLt 3 Z M (L 0) (i 1)), p 10 (oMv (L 0))]
 (C (t 10) (S [p 9 (oMv (sC (.bool true)))]
 R)
 (S [m 3, m 1, q (oLt 3 Z M (L 0) (L 1)), p 13 (oMv (L 0))]
 (C (t 13) (S [p 9 (oMv (sC (.bool false)))]
 R)
 xSkip)))))
 (S [m 4, w 0, g 0 0 false (oMv (t 2)), g 0 1 false (oLe 3 Z M (L 0) (i 0)), g 0 2 false (oMv (L 0)), g 0 0 true (oMv (t 3)), g 0 1 true (oMv (t 1)), g 0 2 true (oLe 3 Z M (L 1) (L 0)), g 0 6 false (oPick (L 3) (L 0) (sC (.bool false))), q (oPick (L 7) (sC (.bool true)) (L 0)), w 0, g 0 0 false (oMv (t 2)), g 0 1 false (oLt 3 Z M (i 0) (L 0)), g 0 2 false (oMv (L 0)), g 0 0 true (oMv (t 1)), g 0 1 true (oMv (t 3)), g 0 2 true (oSub 3 M (L 1) (L 0)), g 0 3 true (oMv (t 2)), g 0 4 true (oLe 3 Z M (L 0) (L 1)), g 0 8 false (oPick (L 5) (L 0) (sC (.bool false))), q (oPick (L 9) (sC (.bool true)) (L 0)), p 9 (oMv (L 0))]
 R)))
theorem eq_lf168 : lowAt 168 = some lf168 := by kernel_rfl
noncomputable def lf169 : LF := LF.mk [.tmp 3] (S [p 3 (oMv (i 0))]
 (Q (xDr [D (m 1) 2 [], D (q (oNilck (L 0))) 2 [], D (q (oFaddr 0 (L 0))) 2 [], D (q (oLoad1 (L 0))) 1 [0], D (m 1) 2 [], D (q (oCall 264 [(L 0)])) 0 [], D (q (oSub 3 M (L 2) (L 0))) 2 [], D (p 3 (oMv (L 0))) 2 []])
 R))
theorem eq_lf169 : lowAt 169 = some lf169 := by kernel_rfl
noncomputable def lf170 : LF := LF.mk [.tmp 5] (S [p 5 (oMv (i 0))]
 (S [m 1, m 2, q (oCall 167 [(L 1), (L 0)]), q (oLenSl (L 0)), p 6 (oMv (L 0))]
 (S [m 6, q (oMul 3 M (i 32) (L 0)), m 6, q (oMul 3 M (i 32) (L 0)), q (oAdd 3 M (L 0) (i 32)), q (oCall 265 [(L 3), (L 0)]), p 5 (oMv (L 0))]
 R)))
theorem eq_lf170 : lowAt 170 = some lf170 := by kernel_rfl
noncomputable def lf171 : LF := LF.mk [.tmp 3] (S [p 3 (oMv (i 0))]
 (S [p 4 (oMv (i 1))]
 (xBlock 0 (xLoop (Q (xBlock 1 (S [p 5 (oMv (sC (.bool false)))]
 (Q (S [p 6 (oMv (i 0))]
 (xBlock 2 (xLoop (Q (S [m 6, m 1, q (oNilck (L 0)), q (oFaddr 3 (L 0)), q (oLoad1 (L 0)), q (oLenSl (L 0)), p 15 (oLt 3 Z M (L 5) (L 0))]
 (C (t 15) xSkip
 (xExit 2)))
 (Q (xBlock 3 (O [m 5, w 0, g 0 0 false (oMv (t 1)), g 0 1 false (oNilck (L 0)), g 0 2 false (oFaddr 3 (L 0)), g 0 3 false (oLoad1 (L 0)), g 0 4 false (oMv (t 6)), g 0 5 false (oIaddr 5 (L 1) (L 0)), g 0 6 false (oFaddr 3 (L 0)), g 0 7 false (oLoad1 (L 0)), g 0 8 false (oMv (t 4)), g 0 9 false (oEq (eqI 3) (L 1) (L 0)), q (oPick (L 10) (sC (.bool true)) (L 0)), p 5 (oMv (L 0))]))
 (O [m 6, q (oAdd 3 M (L 0) (i 1)), p 6 (oMv (L 0))]))))))
 (S [m 5, p 32 (oNot (L 0))]
 (C (t 32) (S [m 4, p 3 (oMv (L 0))]
 R)
 xSkip)))))
 (O [m 4, q (oAdd 3 M (L 0) (i 1)), p 4 (oMv (L 0))]))))))
theorem eq_lf171 : lowAt 171 = some lf171 := by kernel_rfl
noncomputable def lf172 : LF := LF.mk [.tmp 3] (S [p 3 (oMv (sC (.bool false)))]
 (Q (S [m 1, q (oLenS (L 0)), q (oLt 3 Z M (L 0) (i 1)), w 0, g 0 0 false (oMv (t 1)), g 0 1 false (oLenS (L 0)), g 0 2 false (oLt 3 Z M (i 27) (L 0)), q (oPick (L 3) (sC (.bool true)) (L 0)), w 0, g 0 0 false (oMv (t 1)), g 0 1 false (oEq eqS (L 0) (s 1 46)), q (oPick (L 2) (sC (.bool true)) (L 0)), w 0, g 0 0 false (oMv (t 1)), g 0 1 false (oEq eqS (L 0) (s 2 11822)), p 20 (oPick (L 2) (sC (.bool true)) (L 0))]
 (C (t 20) (S [p 3 (oMv (sC (.bool false)))]
 R)
 xSkip))
 (Q (S [m 1, p 22 (oLenS (L 0)), p 23 (oMv (i 0))]
 (xBlock 0 (xLoop (S [p 24 (oLt 3 Z M (t 23) (t 22))]
 (Q (C (t 24) xSkip
 (xExit 0))
 (Q (xBlock 1 (S [m 23, p 4 (oMv (L 0))]
 (S [m 1, m 4, q (oIdxS (L 1) (L 0)), q (oCall 266 [(L 0)]), p 30 (oNot (L 0))]
 (C (t 30) (S [p 3 (oMv (sC (.bool false)))]
 R)
 xSkip))))
 (O [q (oAdd 3 M (t 23) (i 1)), p 23 (oMv (L 0))])))))))
 (S [p 3 (oMv (sC (.bool true)))]
 R))))
theorem eq_lf172 : lowAt 172 = some lf172 := by kernel_rfl
noncomputable def lf173 : LF := LF.mk [.tmp 3] (S [p 3 (oMv (s 0 0))]
 (S [m 1, q (oCall 267 [(L 0), (i 16)]), p 4 (oMv (L 0))]
 (S [m 4, q (oLenS (L 0)), q (oSub 3 M (i 16) (L 0)), q (oCall 268 [(s 1 48), (L 0)]), m 4, q (oCat (L 1) (L 0)), p 3 (oMv (L 0))]
 R)))
theorem eq_lf173 : lowAt 173 = some lf173 := by kernel_rfl
noncomputable def lf174 : LF := LF.mk [.tmp 3] (S [p 3 (oMv (sC (.int 7 0)))]
 (S [m 1, q (oBuildSl 1 1 (.cons .nils .nl) [(0, (L 0))]), q (oCall 269 [(L 0)]), p 3 (oMv (L 0))]
 R))
theorem eq_lf174 : lowAt 174 = some lf174 := by kernel_rfl
noncomputable def lf175 : LF := LF.mk [.tmp 3] (S [p 3 (oMv (s 0 0))]
 (S [m 1, q (oCall 270 [(L 0), (i 10)]), p 3 (oMv (L 0))]
 R))
theorem eq_lf175 : lowAt 175 = some lf175 := by kernel_rfl
noncomputable def lf176 : LF := LF.mk [.tmp 5] (S [p 5 (oMv (s 0 0))]
 (Q (S [m 1, q (oEq eqS (L 0) (s 0 0)), w 0, g 0 0 false (oMv (t 2)), g 0 1 false (oEq eqS (L 0) (s 0 0)), p 13 (oPick (L 2) (sC (.bool true)) (L 0))]
 (C (t 13) (S [m 1, p 5 (oMv (L 0))]
 R)
 xSkip))
 (Q (S [m 2, q (oLenS (L 0)), q (oEq (eqI 3) (L 0) (i 1)), w 0, g 0 0 true (oMv (t 2)), g 0 1 true (oIdxS (L 0) (i 0)), g 0 2 true (oLt 4 0 256 (L 0) (sC (.int 4 128))), p 22 (oPick (L 3) (L 0) (sC (.bool false)))]
 (C (t 22) (Q (xDr [D (m 1) 2 [], D (m 2) 2 [], D (q (oIdxS (L 0) (i 0))) 2 [], D (q (oCall 272 [(L 2), (L 0)])) 0 [], D (m 2) 2 [], D (q (oIdxS (L 0) (i 0))) 2 [], D (q (oCall 271 [(L 2), (L 0)])) 0 [], D (p 5 (oMv (L 0))) 2 []])
 R)
 xSkip))
 (Q (S [m 2, q (oCall 273 [(L 0)]), w 0, q (oExt (L 0) 0), q (oExt (L 1) 1), p 6 (oNew (.cells 256 0 (.node (.node (.node (.node (.node (.node (.node (.node (.node .nil (some (.bool false)) .nil) (some (.bool false)) .nil) (some (.bool false)) (.node .nil (some (.bool false)) .nil)) (some (.bool false)) (.node (.node .nil (some (.bool false)) .nil) (some (.bool false)) (.node .nil (some (.bool false)) .nil))) (some (.bool false)) (.node (.node (.node .nil (some (.bool false)) .nil) (some (.bool false)) (.node .nil (some (.bool false)) .nil)) (some (.bool false)) (.node (.node .nil (some (.bool false)) .nil) (some (.bool false)) (.node .nil (some (.bool false)) .nil)))) (some (.bool false)) (.node (.node (.node (.node .nil (some (.bool false)) .nil) (some (.bool false)) (.node .nil (some (.bool false)) .nil)) (some (.bool false)) (.node (.node .nil (some (.bool false)) .nil) (some (.bool false)) (.node .nil (some (.bool false)) .nil))) (some (.bool false)) (.node (.node (.node .nil (some (.bool false)) .nil) (some (.bool false)) (.node .nil (some (.bool false)) .nil)) (some (.bool false)) (.node (.node .nil (some (.bool false)) .nil) (some (.bool false)) (.node .nil (some (.bool false)) .nil))))) (some (.bool false)) (.node (.node (.node (.node (.node .nil (some (.bool false)) .nil) (some (.bool false)) (.node .nil (some (.bool false)) .nil)) (some (.bool false)) (.node (.node .nil (some (.bool false)) .nil) (some (.bool false)) (.node .nil (some (.bool false)) .nil))) (some (.bool false)) (.node (.node (.node .nil (some (.bool false)) .nil) (some (.bool false)) (.node .nil (some (.bool false)) .nil)) (some (.bool false)) (.node (.node .nil (some (.bool false)) .nil) (some (.bool false)) (.node .nil (some (.bool false)) .nil)))) (some (.bool false)) (.node (.node (.node (.node .nil (some (.bool false)) .nil) (some (.bool false)) (.node .nil (some (.bool false)) .nil)) (some (.bool false)) (.node (.node .nil (some (.bool false)) .nil) (some (.bool false)) (.node .nil (some (.bool false)) .nil))) (some (.bool false)) (.node (.node (.node .nil (some (.bool false)) .nil) (some (.bool false)) (.node .nil (some (.bool false)) .nil)) (some (.bool false)) (.node (.node .nil (some (.bool false)) .nil) (some (.bool false)) (.node .nil (some (.bool false)) .nil)))))) (some (.bool false)) (.node (.node (.node (.node (.node (.node .nil (some (.bool false)) .nil) (some (.bool false)) (.node .nil (some (.bool false)) .nil)) (some (.bool false)) (.node (.node .nil (some (.bool false)) .nil) (some (.bool false)) (.node .nil (some (.bool false)) .nil))) (some (.bool false)) (.node (.node (.node .nil (some (.bool false)) .nil) (some (.bool false)) (.node .nil (some (.bool false)) .nil)) (some (.bool false)) (.node (.node .nil (some (.bool false)) .nil) (some (.bool false)) (.node .nil (some (.bool false)) .nil)))) (some (.bool false)) (.node (.node (.node (.node .nil (some (.bool false)) .nil) (some (.bool false)) (.node .nil (some (.bool false)) .nil)) (some (.bool false)) (.node (.node .nil (some (.bool false)) .nil) (some (.bool false)) (.node .nil (some (.bool false)) .nil))) (some (.bool false)) (.node (.node (.node .nil (some (.bool false)) .nil) (some (.bool false)) (.node .nil (some (.bool false)) .nil)) (some (.bool false)) (.node (.node .nil (some (.bool false)) .nil) (some (.bool false)) (.node .nil (some (.bool false)) .nil))))) (some (.bool false)) (.node (.node (.node (.node (.node .nil (some (.bool false)) .nil) (some (.bool false)) (.node .nil (some (.bool false)) .nil)) (some (.bool false)) (.node (.node .nil (some (.bool false)) .nil) (some (.bool false)) (.node .nil (some (.bool false)) .nil))) (some (.bool false)) (.node (.node (.node .nil (some (.bool false)) .nil) (some (.bool false)) (.node .nil (some (.bool false)) .nil)) (some (.bool false)) (.node (.node .nil (some (.bool false)) .nil) (some (.bool false)) (.node .nil (some (.bool false)) .nil)))) (some (.bool false)) (.node (.node (.node (.node .nil (some (.bool false)) .nil) (some (.bool false)) (.node .nil (some (.bool false)) .nil)) (some (.bool false)) (.node (.node .nil (some (.bool false)) .nil) (some (.bool false)) (.node .nil (some (.bool false)) .nil))) (some (.bool false)) (.node (.node (.node .nil (some (.bool false)) .nil) (some (.bool false)) (.node .nil (some (.bool false)) .nil)) (some (.bool false)) (.node (.node .nil (some (.bool false)) .nil) (some (.bool false)) (.node .nil (some (.bool false)) .nil))))))) (some (.bool false)) (.node (.node (.node (.node (.node (.node (.node .nil (some (.bool false)) .nil) (some (.bool false)) (.node .nil (some (.bool false)) .nil)) (some (.bool false)) (.node (.node .nil (some (.bool false)) .nil) (some (.bool false)) (.node .nil (some (.bool false)) .nil))) (some (.bool false)) (.node (.node (.node .nil (some (.bool false)) .nil) (some (.bool false)) (.node .nil (some (.bool false)) .nil)) (some (.bool false)) (.node (.node .nil (some (.bool false)) .nil) (some (.bool false)) (.node .nil (some (.bool false)) .nil)))) (some (.bool false)) (.node (.node (.node (.node .nil (some (.bool false)) .nil) (some (.bool false)) (.node .nil (some (.bool false)) .nil)) (some (.bool false)) (.node (.node .nil (some (.bool false)) .nil) (some (.bool false)) (.node .nil (some (.bool false)) .nil))) (some (.bool false)) (.node (.node (.node .nil (some (.bool false)) .nil) (some (.bool false)) (.node .nil (some (.bool false)) .nil)) (some (.bool false)) (.node (.node .nil (some (.bool false)) .nil) (some (.bool false)) (.node .nil (some (.bool false)) .nil))))) (some (.bool false)) (.node (.node (.node (.node (.node .nil (some (.bool false)) .nil) (some (.bool false)) (.node .nil (some (.bool false)) .nil)) (some (.bool false)) (.node (.node .nil (some (.bool false)) .nil) (some (.bool false)) (.node .nil (some (.bool false)) .nil))) (some (.bool false)) (.node (.node (.node .nil (some (.bool false)) .nil) (some (.bool false)) (.node .nil (some (.bool false)) .nil)) (some (.bool false)) (.node (.node .nil (some (.bool false)) .nil) (some (.bool false)) (.node .nil (some (.bool false)) .nil)))) (some (.bool false)) (.node (.node (.node (.node .nil (some (.bool false)) .nil) (some (.bool false)) (.node .nil (some (.bool false)) .nil)) (some (.bool false)) (.node (.node .nil (some (.bool false)) .nil) (some (.bool false)) (.node .nil (some (.bool false)) .nil))) (some (.bool false)) (.node (.node (.node .nil (some (.bool false)) .nil) (some (.bool false)) (.node .nil (some (.bool false)) .nil)) (some (.bool false)) (.node (.node .nil (some (.bool false)) .nil) (some (.bool false)) (.node .nil (some (.bool false)) .nil)))))) (some (.bool false)) (.node (.node (.node (.node (.node (.node .nil (some (.bool false)) .nil) (some (.bool false)) (.node .nil (some (.bool false)) .nil)) (some (.bool false)) (.node (.node .nil (some (.bool false)) .nil) (some (.bool false)) (.node .nil (some (.bool false)) .nil))) (some (.bool false)) (.node (.node (.node .nil (some (.bool false)) .nil) (some (.bool false)) (.node .nil (some (.bool false)) .nil)) (some (.bool false)) (.node (.node .nil (some (.bool false)) .nil) (some (.bool false)) (.node .nil (some (.bool false)) .nil)))) (some (.bool false)) (.node (.node (.node (.node .nil (some (.bool false)) .nil) (some (.bool false)) (.node .nil (some (.bool false)) .nil)) (some (.bool false)) (.node (.node .nil (some (.bool false)) .nil) (some (.bool false)) (.node .nil (some (.bool false)) .nil))) (some (.bool false)) (.node (.node (.node .nil (some (.bool false)) .nil) (some (.bool false)) (.node .nil (some (.bool false)) .nil)) (some (.bool false)) (.node (.node .nil (some (.bool false)) .nil) (some (.bool false)) (.node .nil (some (.bool false)) .nil))))) (some (.bool false)) (.node (.node (.node (.node (.node .nil (some (.bool false)) .nil) (some (.bool false)) (.node .nil (some (.bool false)) .nil)) (some (.bool false)) (.node (.node .nil (some (.bool false)) .nil) (some (.bool false)) (.node .nil (some (.bool false)) .nil))) (some (.bool false)) (.node (.node (.node .nil (some (.bool false)) .nil) (some (.bool false)) (.node .nil (some (.bool false)) .nil)) (some (.bool false)) (.node (.node .nil (some (.bool false)) .nil) (some (.bool false)) (.node .nil (some (.bool false)) .nil)))) (some (.bool false)) (.node (.node (.node (.node .nil (some (.bool false)) .nil) (some (.bool false)) (.node .nil (some (.bool false)) .nil)) (some (.bool false)) (.node (.node .nil (some (.bool false)) .nil) (some (.bool false)) (.node .nil (some (.bool false)) .nil))) (some (.bool false)) (.node (.node (.node .nil (some (.bool false)) .nil) (some (.bool false)) (.node .nil (some (.bool false)) .nil)) (some (.bool false)) (.node (.node .nil (some (.bool false)) .nil) (some (.bool false)) (.node .nil (some (.bool false)) .nil)))))))))), q (oStore 256 (L 0) (L 2)), p 7 (oMv (L 2))]
 (S [p 35 (oMv (t 7))]
 (C (t 35) (S [m 1, q (oCall 275 [(L 0), (t 6)]), q (oCall 274 [(L 0), (t 6)]), p 5 (oMv (L 0))]
 R)
 xSkip)))
 (S [m 1, m 2, q (oCall 277 [(L 1), (L 0)]), m 2, q (oCall 276 [(L 1), (L 0)]), p 5 (oMv (L 0))]
 R)))))
theorem eq_lf176 : lowAt 176 = some lf176 := by kernel_rfl
noncomputable def lf177 : LF := LF.mk [.tmp 5] (S [p 5 (oMv (i 0))]
 (Q (S [m 1, p 8 (oLenSl (L 0)), p 9 (oMv (i 0))]
 (xBlock 0 (xLoop (S [p 10 (oLt 3 Z M (t 9) (t 8))]
 (Q (C (t 10) xSkip
 (xExit 0))
 (Q (xBlock 1 (S [m 9, p 6 (oMv (L 0))]
 (S [m 2, m 1, m 6, q (oIaddr 2 (L 1) (L 0)), q (oLoadN 2 (L 0)), p 17 (oCallV (L 4) [(L 0)])]
 (C (t 17) (S [m 6, p 5 (oMv (L 0))]
 R)
 xSkip))))
 (O [q (oAdd 3 M (t 9) (i 1)), p 9 (oMv (L 0))])))))))
 (S [p 5 (oMv (i 18446744073709551615))]
 R)))
theorem eq_lf177 : lowAt 177 = some lf177 := by kernel_rfl
noncomputable def lf178 : LF := LF.mk [.tmp 3] (S [p 3 (oMv (sC .nils))]
 (S [p 4 (oMv (i 0))]
 (Q (S [p 10 (oMv (t 1)), p 11 (oLenSl (L 0)), p 12 (oMv (i 0))]
 (xBlock 0 (xLoop (S [p 13 (oLt 3 Z M (t 12) (t 11))]
 (Q (C (t 13) xSkip
 (xExit 0))
 (Q (xBlock 1 (S [q (oIaddr 1 (t 10) (t 12)), q (oLoad1 (L 0)), p 6 (oMv (L 0))]
 (S [m 4, m 6, q (oLenSl (L 0)), q (oAdd 3 M (L 2) (L 0)), p 4 (oMv (L 0))]
 (S [m 4, p 21 (oLt 3 Z M (L 0) (i 0))]
 (C (t 21) (O [q (oMkIf 9 (s 16 144083279162335362808197356371485550437)), q (oBad)])
 xSkip)))))
 (O [q (oAdd 3 M (t 12) (i 1)), p 12 (oMv (L 0))])))))))
 (S [m 4, q (oCall 278 [(sC .nils), (L 0)]), p 7 (oMv (L 0))]
 (Q (S [p 26 (oMv (t 1)), p 27 (oLenSl (L 0)), p 28 (oMv (i 0))]
 (xBlock 2 (xLoop (S [p 29 (oLt 3 Z M (t 28) (t 27))]
 (Q (C (t 29) xSkip
 (xExit 2))
 (Q (xBlock 3 (S [q (oIaddr 1 (t 26) (t 28)), q (oLoad1 (L 0)), p 9 (oMv (L 0))]
 (O [m 7, m 9, q (oAppend 2 32 (L 1) (L 0)), p 7 (oMv (L 0))])))
 (O [q (oAdd 3 M (t 28) (i 1)), p 28 (oMv (L 0))])))))))
 (S [m 7, p 3 (oMv (L 0))]
 R))))))
theorem eq_lf178 : lowAt 178 = some lf178 := by kernel_rfl
noncomputable def lf179 : LF := LF.mk [.tmp 3, .tmp 4] (S [p 3 (oMv (sC (.int 7 0))), p 4 (oMv (sC (.bool false)))]
 (Q (S [m 1, q (oLenS (L 0)), p 11 (oNe (eqI 3) (L 0) (i 16))]
 (C (t 11) (S [p 3 (oMv (sC (.int 7 0))), p 4 (oMv (sC (.bool false)))]
 R)
 xSkip))
 (S [p 5 (oMv (sC (.int 7 0)))]
 (Q (S [p 12 (oMv (i 0))]
 (xBlock 0 (xLoop (S [p 13 (oLt 3 Z M (t 12) (i 16))]
 (Q (C (t 13) xSkip
 (xExit 0))
 (Q (xBlock 1 (S [m 12, p 6 (oMv (L 0))]
 (S [m 1, m 6, q (oIdxS (L 1) (L 0)), q (oCall 279 [(L 0)]), w 0, q (oExt (L 0) 0), q (oExt (L 1) 1), p 7 (oMv (L 1)), p 8 (oMv (L 1))]
 (Q (S [m 8, p 23 (oNot (L 0))]
 (C (t 23) (S [p 3 (oMv (sC (.int 7 0))), p 4 (oMv (sC (.bool false)))]
 R)
 xSkip))
 (O [m 5, q (oShl 7 64 M (L 0) (sC (.int 7 4))), m 7, q (oOr 7 (L 1) (L 0)), p 5 (oMv (L 0))])))))
 (O [q (oAdd 3 M (t 12) (i 1)), p 12 (oMv (L 0))])))))))
 (S [m 5, p 3 (oMv (L 0)), p 4 (oMv (sC (.bool true)))]
 R)))))
theorem eq_lf179 : lowAt 179 = some lf179 := by kernel_rfl
noncomputable def lf180 : LF := LF.mk [.tmp 7, .tmp 8] (S [p 7 (oMv (i 0)), p 8 (oMv (sC .nili))]
 (S [m 1, m 2, q (oCall 18 [(L 1), (L 0)]), w 0, q (oExt (L 0) 0), q (oExt (L 1) 1), p 9 (oMv (L 1)), p 10 (oMv (L 1))]
 (S [m 9, q (oLenSl (L 0)), q (oMul 3 M (i 32) (L 0)), m 9, q (oLenSl (L 0)), m 3, q (oAdd 3 M (L 1) (L 0)), q (oMul 3 M (i 32) (L 0)), q (oCall 203 [(L 5), (L 0)]), m 10, p 7 (oMv (L 1)), p 8 (oMv (L 1))]
 R)))
theorem eq_lf180 : lowAt 180 = some lf180 := by kernel_rfl
noncomputable def lf181 : LF := LF.mk [.tmp 5, .tmp 6, .tmp 7] (S [p 5 (oMv (i 0)), p 6 (oMv (i 0)), p 7 (oMv (sC .nili))]
 (S [q (oMkMap), p 8 (oMv (L 0))]
 (Q (S [p 15 (oMv (t 2)), p 16 (oLenSl (L 0)), p 17 (oMv (i 0))]
 (xBlock 0 (xLoop (S [p 18 (oLt 3 Z M (t 17) (t 16))]
 (Q (C (t 18) xSkip
 (xExit 0))
 (Q (xBlock 1 (S [q (oIaddr 1 (t 15) (t 17)), q (oLoad1 (L 0)), p 10 (oMv (L 0))]
 (S [m 10, q (oCall 88 [(L 0)]), p 11 (oMv (L 0))]
 (Q (S [m 8, m 11, p 25 (oLookup true (.bool false) false (L 1) (L 0))]
 (C (t 25) (xExit 1)
 xSkip))
 (S [m 8, m 11, q (oMapSet true (L 1) (L 0) (sC (.bool true)))]
 (S [m 1, m 11, q (oCall 183 [(L 1), (L 0)]), w 0, q (oExt (L 0) 0), q (oExt (L 1) 1), p 12 (oMv (L 1)), p 13 (oMv (L 1))]
 (Q (S [m 13, p 35 (oNeN (L 0))]
 (C (t 35) (S [m 13, p 5 (oMv (i 0)), p 6 (oMv (i 0)), p 7 (oMv (L 2))]
 R)
 xSkip))
 (S [m 12, p 38 (oNot (L 0))]
 (C (t 38) (S [m 5, q (oAdd 3 M (L 0) (i 1)), p 5 (oMv (L 0))]
 (O [m 6, m 10, q (oLenSl (L 0)), q (oCall 182 [(L 0)]), q (oAdd 3 M (L 3) (L 0)), p 6 (oMv (L 0))]))
 xSkip)))))))))
 (O [q (oAdd 3 M (t 17) (i 1)), p 17 (oMv (L 0))])))))))
 (S [m 5, m 6, p 5 (oMv (L 1)), p 6 (oMv (L 1)), p 7 (oMv (sC .nili))]
 R))))
theorem eq_lf181 : lowAt 181 = some lf181 := by kernel_rfl
noncomputable def lf182 : LF := LF.mk [.tmp 3] (S [p 3 (oMv (i 0))]
 (S [p 4 (oMv (i 0))]
 (Q (xBlock 0 (Q (xBlock 4 (Q (xBlock 3 (Q (xBlock 2 (Q (xBlock 1 (Q (Q (S [m 1, q (oLt 3 Z M (L 0) (i 1)), p 5 (oMv (L 0))]
 (C (t 5) (xExit 1)
 xSkip))
 (Q (S [m 1, q (oLt 3 Z M (i 4000) (L 0)), p 8 (oMv (L 0))]
 (C (t 8) (xExit 2)
 xSkip))
 (S [m 1, q (oLt 3 Z M (i 1024) (L 0)), p 11 (oMv (L 0))]
 (C (t 11) (xExit 3)
 xSkip))))
 (xExit 4)))
 (Q (S [p 3 (oMv (i 0))]
 R)
 (xExit 0))))
 (O [p 1 (oMv (i 4000))])))
 (O [m 4, q (oAdd 3 M (L 0) (i 1)), p 4 (oMv (L 0))])))
 (S [m 4, m 1, q (oCall 280 [(L 0), (i 128)]), q (oAdd 3 M (L 2) (L 0)), p 4 (oMv (L 0))]
 (xExit 0))))
 (S [m 4, p 3 (oMv (L 0))]
 R))))
theorem eq_lf182 : lowAt 182 = some lf182 := by kernel_rfl
noncomputable def lf183 : LF := LF.mk [.tmp 5, .tmp 6] (S [p 5 (oMv (sC (.bool false))), p 6 (oMv (sC .nili))]
 (S [m 1, m 2, m 2, q (oBuild (.cons (.str 0 0) (.cons (.str 0 0) .nl)) [(0, 1, (L 1)), (1, 1, (L 0))]), q (oCall 236 [(L 3), (L 0)]), w 0, q (oExt (L 0) 0), q (oExt (L 1) 1), w 1, p 8 (oMv (L 1))]
 (Q (S [m 8, q (oMkIf 84 (i 31)), q (oCall 47 [(L 1), (L 0)]), w 0, g 0 0 false (oMv (t 8)), g 0 1 false (oMkIf 84 (i 32)), g 0 2 false (oCall 47 [(L 1), (L 0)]), p 24 (oPick (L 3) (sC (.bool true)) (L 0))]
 (C (t 24) (S [p 5 (oMv (sC (.bool false))), p 6 (oMv (sC .nili))]
 R)
 xSkip))
 (S [m 8, q (oEqN (L 0)), m 8, p 5 (oMv (L 1)), p 6 (oMv (L 1))]
 R))))
theorem eq_lf183 : lowAt 183 = some lf183 := by kernel_rfl
noncomputable def lf184 : LF := LF.mk [.tmp 5, .tmp 6] (S [p 5 (oMv (i 0)), p 6 (oMv (sC .nili))]
 (S [m 1, q (oCall 281 [(L 0)])]
 (S [m 1, m 1, q (oNilck (L 0)), q (oFaddr 1 (L 0)), q (oLoad1 (L 0)), m 2, q (oAppB 5 (L 1) (L 0)), q (oNilck (L 6)), q (oFaddr 1 (L 0)), q (oStore 1 (L 0) (L 2))]
 (S [m 2, q (oLenS (L 0)), p 5 (oMv (L 0)), p 6 (oMv (sC .nili))]
 R))))
theorem eq_lf184 : lowAt 184 = some lf184 := by kernel_rfl
noncomputable def lf185 : LF := LF.mk [.tmp 3] (S [p 3 (oMv (s 0 0))]
 (Q (xDr [D (m 1) 2 [], D (q (oNilck (L 0))) 2 [], D (q (oFaddr 1 (L 0))) 2 [], D (q (oLoad1 (L 0))) 1 [], D (q (oUsd (L 0))) 0 [], D (m 1) 2 [], D (q (oNilck (L 0))) 2 [], D (q (oFaddr 1 (L 0))) 2 [], D (q (oLoad1 (L 0))) 1 [8], D (q (oLenSl (L 0))) 2 [], D (q (oUst 5 (L 5) (L 0))) 0 [], D (p 3 (oMv (L 0))) 2 []])
 R))
theorem eq_lf185 : lowAt 185 = some lf185 := by kernel_rfl
noncomputable def lf186 : LF := LF.mk [.tmp 4] (S [p 4 (oMv (sC .nili))]
 (S [q (oLoad1 (t 1)), q (oLoad1 (t 2)), q (oLoad1 (t 3)), q (oCall 187 [(L 2), (L 1), (L 0)]), p 4 (oMv (L 0))]
 R))
theorem eq_lf186 : lowAt 186 = some lf186 := by kernel_rfl
noncomputable def lf187 : LF := LF.mk [.tmp 7] (S [p 7 (oMv (sC .nili))]
 (S [m 2, m 3, q (oCall 282 [(L 1), (L 0)]), w 0, q (oExt (L 0) 0), q (oExt (L 1) 1), q (oExt (L 2) 2), w 2, p 9 (oMv (L 2)), p 10 (oMv (L 2))]
 (Q (S [m 10, p 22 (oNeN (L 0))]
 (C (t 22) (S [m 10, p 7 (oMv (L 0))]
 R)
 xSkip))
 (S [m 1, m 2, q (oCall 57 [(L 1), (L 0)]), w 0, q (oExt (L 0) 0), q (oExt (L 1) 1), p 11 (oMv (L 1)), p 10 (oMv (L 1))]
 (Q (xBlock 0 (S [m 10, q (oNeN (L 0)), p 30 (oMv (L 0))]
 (C (t 30) (S [m 10, p 7 (oMv (L 0))]
 R)
 (S [m 2, m 3, q (oEq eqS (L 1) (L 0)), p 34 (oMv (L 0))]
 (C (t 34) (S [p 7 (oMv (sC .nili))]
 R)
 (S [m 3, m 2, q (oCall 283 [(L 1), (L 0)]), p 38 (oMv (L 0))]
 (C (t 38) (S [q (oMkIf 84 (i 20)), p 7 (oMv (L 0))]
 R)
 xSkip)))))))
 (S [m 1, m 11, q (oCall 284 [(L 1), (L 0)]), w 0, q (oExt (L 0) 0), q (oExt (L 1) 1), p 12 (oMv (L 1)), p 10 (oMv (L 1))]
 (Q (xBlock 1 (S [m 10, q (oNeN (L 0)), p 49 (oMv (L 0))]
 (C (t 49) (S [m 10, p 7 (oMv (L 0))]
 R)
 (S [m 9, q (oLenSl (L 0)), m 12, q (oAdd 3 M (L 1) (L 0)), q (oLt 3 Z M (i 6) (L 0)), p 53 (oMv (L 0))]
 (C (t 53) (S [q (oMkIf 84 (i 10)), p 7 (oMv (L 0))]
 R)
 xSkip)))))
 (S [m 1, q (oNilck (L 0)), q (oFaddr 2 (L 0)), q (oLoad1 (L 0)), m 11, q (oCall 128 [(L 1), (L 0)]), w 0, q (oExt (L 0) 0), q (oExt (L 1) 1), p 13 (oMv (L 1)), p 10 (oMv (L 1))]
 (Q (S [m 10, p 70 (oNeN (L 0))]
 (C (t 70) (S [m 10, p 7 (oMv (L 0))]
 R)
 xSkip))
 (S [m 1, m 11, m 2, m 3, m 13, q (oEq (eqI 3) (L 0) (i 1)), q (oCall 285 [(L 5), (L 4), (L 3), (L 2), (L 0)]), p 7 (oMv (L 0))]
 R))))))))))
theorem eq_lf187 : lowAt 187 = some lf187 := by kernel_rfl
noncomputable def lf191 : LF := LF.mk [.tmp 5] (S [p 5 (oMv (sC .nili))]
 (Q (xBlock 0 (S [m 1, m 2, q (oCall 288 [(L 1), (L 0)]), q (oNot (L 0)), p 11 (oMv (L 0))]
 (C (t 11) (S [q (oCall 289 [(i 1)]), p 5 (oMv (L 0))]
 R)
 (S [m 2, q (oLenSl (L 0)), m 1, q (oNilck (L 0)), q (oFaddr 2 (L 0)), q (oLoad1 (L 0)), q (oLt 3 Z M (L 0) (L 4)), p 17 (oMv (L 0))]
 (C (t 17) (S [q (oCall 289 [(i 5)]), p 5 (oMv (L 0))]
 R)
 (S [m 2, q (oLenSl (L 0)), q (oEq (eqI 3) (L 0) (i 0)), p 26 (oMv (L 0))]
 (C (t 26) (S [p 5 (oMv (sC .nili))]
 R)
 xSkip)))))))
 (S [m 2, q (oCall 290 [(L 0)]), p 6 (oMv (L 0))]
 (Q (S [p 32 (oMv (t 6)), p 33 (oLenSl (L 0)), p 34 (oMv (i 0))]
 (xBlock 1 (xLoop (S [p 35 (oLt 3 Z M (t 34) (t 33))]
 (Q (C (t 35) xSkip
 (xExit 1))
 (Q (xBlock 2 (S [m 34, q (oIaddr 1 (t 32) (t 34)), q (oLoad1 (L 0)), p 7 (oMv (L 2)), p 8 (oMv (L 1))]
 (Q (xDr [D (m 1) 2 [], D (q (oNilck (L 0))) 2 [], D (q (oFaddr 0 (L 0))) 2 [], D (q (oLoad1 (L 0))) 1 [], D (m 1) 2 [], D (q (oNilck (L 0))) 2 [], D (q (oFaddr 1 (L 0))) 2 [], D (q (oLoad1 (L 0))) 1 [], D (q (oAdd 3 M (L 0) (i 1))) 2 [], D (m 7) 2 [], D (q (oAdd 3 M (L 1) (L 0))) 2 [], D (m 8) 2 [], D (q (oCall 259 [(L 8), (L 1), (L 0)])) 0 [], D (p 9 (oMv (L 0))) 2 []])
 (S [m 9, p 53 (oNeN (L 0))]
 (C (t 53) (S [m 9, q (oCall 291 [(L 0)]), p 5 (oMv (L 0))]
 R)
 xSkip)))))
 (O [q (oAdd 3 M (t 34) (i 1)), p 34 (oMv (L 0))])))))))
 (Q (Q (xDr [D (m 1) 2 [], D (q (oNilck (L 0))) 2 [], D (q (oFaddr 0 (L 0))) 2 [], D (q (oLoad1 (L 0))) 1 [2], D (m 1) 2 [], D (q (oNilck (L 0))) 2 [], D (q (oFaddr 1 (L 0))) 2 [], D (q (oLoad1 (L 0))) 1 [2], D (m 2) 2 [], D (q (oLenSl (L 0))) 2 [], D (m 6) 2 [], D (q (oCall 292 [(L 1), (L 0)])) 0 [], D (q (oCall 259 [(L 8), (L 4), (L 0)])) 0 [], D (p 10 (oMv (L 0))) 2 []])
 (S [m 10, p 71 (oNeN (L 0))]
 (C (t 71) (S [m 10, q (oCall 291 [(L 0)]), p 5 (oMv (L 0))]
 R)
 xSkip)))
 (S [m 1, m 2, q (oCall 293 [(L 1), (L 0)]), q (oCall 291 [(L 0)]), p 5 (oMv (L 0))]
 R))))))
theorem eq_lf191 : lowAt 191 = some lf191 := by kernel_rfl
noncomputable def lf192 : LF := LF.mk [.tmp 3, .tmp 4] (S [p 3 (oMv (sC .nils)), p 4 (oMv (sC .nili))]
 (S [p 5 (oMv (sC .nils))]
 (Q (S [p 6 (oMv (i 0))]
 (xBlock 0 (xLoop (Q (S [m 6, q (oMul 3 M (L 0) (i 1024)), m 1, q (oNilck (L 0)), q (oFaddr 3 (L 0)), q (oLoad1 (L 0)), p 15 (oLt 3 Z M (L 4) (L 0))]
 (C (t 15) xSkip
 (xExit 0)))
 (Q (xBlock 1 (Q (xDr [D (m 1) 2 [], D (q (oNilck (L 0))) 2 [], D (q (oFaddr 0 (L 0))) 2 [], D (q (oLoad1 (L 0))) 1 [], D (m 1) 2 [], D (q (oNilck (L 0))) 2 [], D (q (oFaddr 1 (L 0))) 2 [], D (q (oLoad1 (L 0))) 1 [], D (m 6) 2 [], D (q (oAdd 3 M (L 1) (L 0))) 2 [], D (q (oCall 195 [(L 6), (L 0)])) 0 [], D (w 0) 2 [], D (q (oExt (L 0) 0)) 2 [], D (q (oExt (L 1) 1)) 2 [], D (p 7 (oMv (L 1))) 2 [], D (p 8 (oMv (L 1))) 2 []])
 (Q (S [m 8, p 33 (oNeN (L 0))]
 (C (t 33) (S [m 8, p 3 (oMv (sC .nils)), p 4 (oMv (L 1))]
 R)
 xSkip))
 (O [m 5, m 7, q (oAppend 1 1 (L 1) (L 0)), p 5 (oMv (L 0))]))))
 (O [m 6, q (oAdd 3 M (L 0) (i 1)), p 6 (oMv (L 0))]))))))
 (S [m 5, p 3 (oMv (L 0)), p 4 (oMv (sC .nili))]
 R))))
theorem eq_lf192 : lowAt 192 = some lf192 := by kernel_rfl
noncomputable def lf193 : LF := LF.mk [.tmp 5] (S [p 5 (oMv (sC .nili))]
 (S [m 1, m 2, q (oCall 96 [(s 5 418430873443), (L 1), (L 0)]), p 5 (oMv (L 0))]
 R))
theorem eq_lf193 : lowAt 193 = some lf193 := by kernel_rfl
noncomputable def lf194 : LF := LF.mk [.tmp 5] (S [p 5 (oMv (sC (.bool false)))]
 (S [m 1, m 2, q (oQuo 3 Z (L 0) (i 8)), q (oIaddr 1 (L 2) (L 0)), q (oLoad1 (L 0)), m 2, q (oRem 3 Z (L 0) (i 8)), q (oShr 4 8 256 (L 2) (L 0)), q (oAnd 4 (L 0) (sC (.int 4 1))), q (oEq (eqI 4) (L 0) (sC (.int 4 1))), p 5 (oMv (L 0))]
 R))
theorem eq_lf194 : lowAt 194 = some lf194 := by kernel_rfl
noncomputable def lf195 : LF := LF.mk [.tmp 5, .tmp 6] (S [p 5 (oMv (sC .nils)), p 6 (oMv (sC .nili))]
 (Q (S [m 1, m 2, q (oCall 294 [(L 1), (L 0)]), p 14 (oNot (L 0))]
 (C (t 14) (S [m 2, q (oCall 295 [(L 0), (i 1)]), p 5 (oMv (sC .nils)), p 6 (oMv (L 1))]
 R)
 xSkip))
 (Q (S [m 1, q (oNilck (L 0)), q (oFaddr 2 (L 0)), q (oLoad1 (L 0)), m 2, q (oLookup false .nils true (L 1) (L 0)), w 0, q (oExt (L 0) 0), q (oExt (L 1) 1), p 7 (oMv (L 1)), p 8 (oMv (L 1))]
 (S [p 26 (oMv (t 8))]
 (C (t 26) (S [m 7, q (oCall 297 [(L 0)]), q (oCall 296 [(L 0)]), p 5 (oMv (L 0)), p 6 (oMv (sC .nili))]
 R)
 xSkip)))
 (S [m 1, q (oNilck (L 0)), q (oFaddr 0 (L 0)), q (oLoad1 (L 0)), m 2, q (oCall 298 [(L 1), (L 0)]), w 0, q (oExt (L 0) 0), q (oExt (L 1) 1), p 9 (oMv (L 1)), p 10 (oMv (L 1))]
 (S [m 9, m 2, m 10, q (oCall 299 [(L 1), (L 0)]), p 5 (oMv (L 3)), p 6 (oMv (L 1))]
 R)))))
theorem eq_lf195 : lowAt 195 = some lf195 := by kernel_rfl
noncomputable def lf196 : LF := LF.mk [.tmp 3] (S [p 3 (oMv (i 0))]
 (Q (xDr [D (m 1) 2 [], D (q (oIaddr 1 (L 0) (i 0))) 2 [], D (q (oLoad1 (L 0))) 1 [], D (q (oToInt 3 M (L 0))) 2 [], D (m 1) 2 [], D (q (oIaddr 1 (L 0) (i 1))) 2 [], D (q (oLoad1 (L 0))) 1 [], D (q (oToInt 3 M (L 0))) 2 [], D (q (oShl 3 64 M (L 0) (sC (.int 7 8)))) 2 [], D (q (oOr 3 (L 5) (L 0))) 2 [], D (p 3 (oMv (L 0))) 2 []])
 R))
theorem eq_lf196 : lowAt 196 = some lf196 := by kernel_rfl
noncomputable def lf197 : LF := LF.mk [.tmp 3] (S [p 3 (oMv (i 0))]
 (S [m 1, q (oAdd 3 M (L 0) (i 128)), q (oSub 3 M (L 0) (i 1)), q (oQuo 3 Z (L 0) (i 128)), p 3 (oMv (L 0))]
 R))
theorem eq_lf197 : lowAt 197 = some lf197 := by kernel_rfl
noncomputable def lf198 : LF := LF.mk [.tmp 5] (S [p 5 (oMv (sC .nils))]
 (S [p 6 (oMv (sC .nils))]
 (Q (S [p 8 (oMv (t 2)), p 9 (oMv (i 0))]
 (xBlock 0 (xLoop (S [p 10 (oLt 3 Z M (t 9) (t 8))]
 (Q (C (t 10) xSkip
 (xExit 0))
 (Q (xBlock 1 (S [m 9, p 7 (oMv (L 0))]
 (O [m 6, m 1, m 7, q (oMul 3 M (i 2) (L 0)), q (oSlice 1 (L 2) (some (L 0)) none none), q (oCall 196 [(L 0)]), q (oBuildSl 1 1 (.cons (.int 3 0) .nl) [(0, (L 0))]), q (oAppend 1 8 (L 6) (L 0)), p 6 (oMv (L 0))])))
 (O [q (oAdd 3 M (t 9) (i 1)), p 9 (oMv (L 0))])))))))
 (S [m 6, p 5 (oMv (L 0))]
 R))))
theorem eq_lf198 : lowAt 198 = some lf198 := by kernel_rfl
noncomputable def lf199 : LF := LF.mk [.tmp 3, .tmp 4] (S [p 3 (oMv (s 0 0)), p 4 (oMv (sC (.bool false)))]
 (Q (S [m 1, q (oLenSl (L 0)), q (oLt 3 Z M (i 6) (L 0)), w 0, g 0 0 false (oMv (t 1)), g 0 1 false (oCall 216 [(L 0), (sC (.func 300 .nl))]), p 11 (oPick (L 2) (sC (.bool true)) (L 0))]
 (C (t 11) (S [p 3 (oMv (s 0 0)), p 4 (oMv (sC (.bool false)))]
 R)
 xSkip))
 (S [m 1, q (oCall 243 [(L 0), (s 1 47)]), q (oCat (s 1 47) (L 0)), p 3 (oMv (L 0)), p 4 (oMv (sC (.bool true)))]
 R)))
theorem eq_lf199 : lowAt 199 = some lf199 := by kernel_rfl
noncomputable def lf200 : LF := LF.mk [.tmp 5] (S [p 5 (oMv (sC .nili))]
 (S [m 1, q (oNilck (L 0)), q (oFaddr 2 (L 0)), q (oLoad1 (L 0)), m 2, q (oCall 128 [(L 1), (L 0)]), w 0, q (oExt (L 0) 0), q (oExt (L 1) 1), p 6 (oMv (L 1)), p 7 (oMv (L 1))]
 (Q (S [m 7, q (oEqN (L 0)), w 0, g 0 0 true (oMv (t 6)), g 0 1 true (oNe (eqI 3) (L 0) (i 1)), p 22 (oPick (L 2) (L 0) (sC (.bool false)))]
 (C (t 22) (O [q (oMkIf 84 (i 13)), p 7 (oMv (L 0))])
 xSkip))
 (S [m 7, p 5 (oMv (L 0))]
 R))))
theorem eq_lf200 : lowAt 200 = some lf200 := by kernel_rfl
noncomputable def lf201 : LF := LF.mk [.tmp 5, .tmp 6] (S [p 5 (oMv (i 0)), p 6 (oMv (sC .nili))]
 (S [m 1, m 2, q (oCall 301 [(L 1), (L 0), (sC (.bool true))]), w 0, q (oExt (L 0) 0), q (oExt (L 1) 1), p 7 (oNew (.cells 4 0 (.node (.node (.node .nil (some (.int 3 0)) .nil) (some (.int 3 0)) .nil) (some (.int 3 0)) (.node .nil (some .nils) .nil)))), q (oStore 4 (L 0) (L 2)), p 8 (oMv (L 2))]
 (S [q (oFaddr 1 (t 7)), q (oLoad1 (L 0)), m 8, p 5 (oMv (L 1)), p 6 (oMv (L 1))]
 R)))
theorem eq_lf201 : lowAt 201 = some lf201 := by kernel_rfl
noncomputable def lf202 : LF := LF.mk [.tmp 7] (S [p 7 (oMv (sC .nili))]
 (S [m 1, q (oNilck (L 0)), q (oFaddr 1 (L 0)), q (oLoad1 (L 0)), q (oCall 50 [(L 0)]), w 0, q (oExt (L 0) 0), q (oExt (L 1) 1), p 8 (oMv (L 1)), p 9 (oMv (L 1))]
 (Q (S [m 9, q (oEqN (L 0)), w 0, g 0 0 true (oMv (t 8)), g 0 1 true (oMv (t 1)), g 0 2 true (oNilck (L 0)), g 0 3 true (oFaddr 4 (L 0)), g 0 4 true (oLoad1 (L 0)), g 0 5 true (oMv (t 2)), g 0 6 true (oMv (t 3)), g 0 7 true (oCall 99 [(L 6), (L 2), (L 1), (L 0)]), g 0 8 true (oNot (L 0)), p 30 (oPick (L 9) (L 0) (sC (.bool false)))]
 (C (t 30) (O [q (oMkIf 84 (i 15)), p 9 (oMv (L 0))])
 xSkip))
 (S [m 9, p 7 (oMv (L 0))]
 R))))
theorem eq_lf202 : lowAt 202 = some lf202 := by kernel_rfl
noncomputable def lf203 : LF := LF.mk [.tmp 5] (S [p 5 (oMv (i 0))]
 (S [m 2, q (oCall 182 [(L 0)]), m 1, q (oCall 182 [(L 0)]), q (oSub 3 M (L 2) (L 0)), q (oMax 3 Z M (L 0) (i 0)), p 5 (oMv (L 0))]
 R))
theorem eq_lf203 : lowAt 203 = some lf203 := by kernel_rfl
noncomputable def lf204 : LF := LF.mk [.tmp 3, .tmp 4] (S [p 3 (oMv (i 0)), p 4 (oMv (sC .nili))]
 (S [m 1, q (oCall 302 [(L 0)]), w 0, q (oExt (L 0) 0), q (oExt (L 1) 1), p 5 (oMv (L 1)), p 6 (oMv (L 1))]
 (Q (xBlock 0 (S [m 6, q (oNeN (L 0)), p 12 (oMv (L 0))]
 (C (t 12) (S [m 6, p 3 (oMv (i 0)), p 4 (oMv (L 1))]
 R)
 (S [m 5, q (oLe 3 Z M (i 120) (L 0)), p 16 (oMv (L 0))]
 (C (t 16) (S [q (oMkIf 84 (i 65)), p 3 (oMv (i 0)), p 4 (oMv (L 1))]
 R)
 xSkip)))))
 (S [m 5, q (oMul 3 M (i 32) (L 0)), m 5, q (oAdd 3 M (L 0) (i 1)), q (oMul 3 M (i 32) (L 0)), q (oCall 203 [(L 3), (L 0)]), p 3 (oMv (L 0)), p 4 (oMv (sC .nili))]
 R))))
theorem eq_lf204 : lowAt 204 = some lf204 := by kernel_rfl
noncomputable def lf205 : LF := LF.mk [.tmp 5, .tmp 6] (S [p 5 (oMv (i 0)), p 6 (oMv (sC .nili))]
 (Q (S [p 7 (oMv (t 2))]
 (xBlock 0 (Q (xBlock 2 (xBlock 1 (Q (Q (S [q (oEq (eqI 3) (t 7) (i 2)), p 8 (oMv (L 0))]
 (C (t 8) (xExit 1)
 xSkip))
 (S [q (oEq (eqI 3) (t 7) (i 1)), p 10 (oMv (L 0))]
 (C (t 10) (xExit 2)
 xSkip)))
 (xExit 0))))
 (Q (S [m 1, m 2, q (oCall 303 [(L 1), (L 0)]), q (oExt (L 0) 0), q (oExt (L 1) 1), p 5 (oMv (L 1)), p 6 (oMv (L 1))]
 R)
 (xExit 0)))))
 (S [q (oCall 87 [(s 5 452824360037), (s 0 0), (i 1)]), p 5 (oMv (i 0)), p 6 (oMv (L 1))]
 R)))
theorem eq_lf205 : lowAt 205 = some lf205 := by kernel_rfl
noncomputable def lf206 : LF := LF.mk [.tmp 7] (S [p 7 (oMv (sC .nili))]
 (S [m 1, m 2, q (oCall 210 [(L 1), (L 0)]), w 0, q (oExt (L 0) 0), q (oExt (L 1) 1), q (oExt (L 2) 2), p 8 (oMv (L 2)), p 9 (oMv (L 2)), p 10 (oMv (L 2))]
 (Q (xBlock 0 (S [m 10, q (oNeN (L 0)), p 18 (oMv (L 0))]
 (C (t 18) (S [m 10, p 7 (oMv (L 0))]
 R)
 (S [m 3, q (oLt 3 Z M (L 0) (i 1)), w 0, g 0 0 false (oMv (t 3)), g 0 1 false (oLt 3 Z M (i 200) (L 0)), q (oPick (L 2) (sC (.bool true)) (L 0)), p 22 (oMv (L 0))]
 (C (t 22) (S [m 2, q (oCall 127 [(L 0), (i 1)]), p 7 (oMv (L 0))]
 R)
 (S [m 9, q (oLe 3 Z M (i 0) (L 0)), p 31 (oMv (L 0))]
 (C (t 31) (S [m 2, q (oCall 127 [(L 0), (i 12)]), p 7 (oMv (L 0))]
 R)
 (S [m 8, q (oLenSl (L 0)), q (oLe 3 Z M (i 120) (L 0)), p 36 (oMv (L 0))]
 (C (t 36) (S [m 2, q (oCall 127 [(L 0), (i 65)]), p 7 (oMv (L 0))]
 R)
 xSkip)))))))))
 (Q (xDr [D (m 2) 2 [], D (m 1) 2 [], D (q (oNilck (L 0))) 2 [], D (q (oFaddr 0 (L 0))) 2 [], D (q (oLoad1 (L 0))) 1 [3], D (m 1) 2 [], D (q (oNilck (L 0))) 2 [], D (q (oFaddr 1 (L 0))) 2 [], D (q (oLoad1 (L 0))) 1 [3], D (m 8) 2 [], D (q (oLenSl (L 0))) 2 [], D (q (oMul 3 M (i 32) (L 0))) 2 [], D (m 2) 2 [], D (m 3) 2 [], D (q (oBuild (.cons (.str 0 0) (.cons (.int 3 0) .nl)) [(0, 1, (L 1)), (1, 1, (L 0))])) 2 [], D (q (oCall 212 [(L 0)])) 0 [], D (q (oCall 208 [(L 11), (L 7), (L 4), (L 0)])) 0 [], D (q (oCall 129 [(L 16), (L 0)])) 0 [], D (p 7 (oMv (L 0))) 2 []])
 R))))
theorem eq_lf206 : lowAt 206 = some lf206 := by kernel_rfl
end Go.Proofs
