/- A part of the proof of ShelfTidies: the program run by the evaluator. No condition. -/
import Derived.Test.YtidmnoafhdhhlaaGreatDoorVTLowA
import Derived.Test.YtidmnoafhdhhlaaGreatDoorProg
import Derived.KernelRfl
set_option linter.all false
namespace Go.Proofs
open Go Go.VE
set_option maxRecDepth 100000
open Lo
noncomputable def lf207 : LF := LF.mk [.tmp 7] (S [p 7 (oMv (sC .nili))]
 (S [m 1, m 2, m 3, q (oLe 3 Z M (i 0) (L 0)), q (oCall 301 [(L 3), (L 2), (L 0)]), w 0, q (oExt (L 0) 0), q (oExt (L 1) 1), p 8 (oNew (.cells 4 0 (.node (.node (.node .nil (some (.int 3 0)) .nil) (some (.int 3 0)) .nil) (some (.int 3 0)) (.node .nil (some .nils) .nil)))), q (oStore 4 (L 0) (L 2)), p 9 (oMv (L 2))]
 (Q (xBlock 0 (S [m 9, q (oNeN (L 0)), p 20 (oMv (L 0))]
 (C (t 20) (S [m 9, p 7 (oMv (L 0))]
 R)
 (S [m 3, q (oLt 3 Z M (i 4000) (L 0)), p 24 (oMv (L 0))]
 (C (t 24) (S [m 2, q (oCall 219 [(L 0), (i 5)]), p 7 (oMv (L 0))]
 R)
 xSkip)))))
 (S [m 1, q (oLoadN 4 (t 8)), q (oCall 304 [(L 1), (L 0)]), w 0, q (oExt (L 0) 0), q (oExt (L 1) 1), p 10 (oMv (L 1)), p 9 (oMv (L 1))]
 (Q (S [m 9, p 36 (oNeN (L 0))]
 (C (t 36) (S [m 2, m 9, q (oCall 220 [(L 1), (L 0)]), p 7 (oMv (L 0))]
 R)
 xSkip))
 (S [m 3, q (oMkBs (L 0) (L 0)), p 11 (oMv (L 0))]
 (S [m 11, m 10, q (oCopy 1 (L 1) (L 0))]
 (S [m 2, m 1, m 2, q (oLoadN 4 (t 8)), m 3, m 10, q (oLenSl (L 0)), q (oMin 3 Z M (L 2) (L 0)), m 11, q (oCall 305 [(L 7), (L 6), (L 5), (L 1), (L 0)]), q (oCall 220 [(L 9), (L 0)]), p 7 (oMv (L 0))]
 R))))))))
theorem eq_lf207 : lowAt 207 = some lf207 := by kernel_rfl
noncomputable def lf208 : LF := LF.mk [.tmp 9] (S [p 9 (oMv (sC .nili))]
 (S [m 1, m 2, m 3, q (oLe 3 Z M (i 0) (L 0)), q (oCall 301 [(L 3), (L 2), (L 0)]), w 0, q (oExt (L 0) 0), q (oExt (L 1) 1), p 10 (oNew (.cells 4 0 (.node (.node (.node .nil (some (.int 3 0)) .nil) (some (.int 3 0)) .nil) (some (.int 3 0)) (.node .nil (some .nils) .nil)))), q (oStore 4 (L 0) (L 2)), p 11 (oMv (L 2))]
 (Q (xBlock 0 (S [m 11, q (oNeN (L 0)), p 22 (oMv (L 0))]
 (C (t 22) (S [m 11, p 9 (oMv (L 0))]
 R)
 (S [m 3, q (oLt 3 Z M (i 4000) (L 0)), w 0, g 0 0 false (oMv (t 4)), g 0 1 false (oLenSl (L 0)), g 0 2 false (oMv (t 3)), g 0 3 false (oSub 3 M (i 4000) (L 0)), g 0 4 false (oLt 3 Z M (L 0) (L 2)), q (oPick (L 5) (sC (.bool true)) (L 0)), p 26 (oMv (L 0))]
 (C (t 26) (S [m 2, q (oCall 219 [(L 0), (i 5)]), p 9 (oMv (L 0))]
 R)
 (S [m 4, q (oLenSl (L 0)), q (oEq (eqI 3) (L 0) (i 0)), p 38 (oMv (L 0))]
 (C (t 38) (S [p 9 (oMv (sC .nili))]
 R)
 xSkip)))))))
 (S [m 1, q (oLoadN 4 (t 10)), q (oCall 304 [(L 1), (L 0)]), w 0, q (oExt (L 0) 0), q (oExt (L 1) 1), p 12 (oMv (L 1)), p 11 (oMv (L 1))]
 (Q (S [m 11, p 49 (oNeN (L 0))]
 (C (t 49) (S [m 2, m 11, q (oCall 220 [(L 1), (L 0)]), p 9 (oMv (L 0))]
 R)
 xSkip))
 (S [m 12, q (oLenSl (L 0)), m 3, m 4, q (oLenSl (L 0)), q (oAdd 3 M (L 2) (L 0)), q (oMax 3 Z M (L 4) (L 0)), q (oMkBs (L 0) (L 0)), p 13 (oMv (L 0))]
 (S [m 13, m 12, q (oCopy 1 (L 1) (L 0))]
 (S [m 13, m 3, q (oSlice 1 (L 1) (some (L 0)) none none), m 4, q (oCopy 1 (L 1) (L 0))]
 (S [m 2, m 1, m 2, q (oLoadN 4 (t 10)), m 3, m 12, q (oLenSl (L 0)), q (oMin 3 Z M (L 2) (L 0)), m 13, q (oCall 305 [(L 7), (L 6), (L 5), (L 1), (L 0)]), q (oCall 220 [(L 9), (L 0)]), p 9 (oMv (L 0))]
 R)))))))))
theorem eq_lf208 : lowAt 208 = some lf208 := by kernel_rfl
noncomputable def lf209 : LF := LF.mk [.tmp 5] (S [p 5 (oMv (i 0))]
 (Q (S [m 1, p 8 (oLenSl (L 0)), p 9 (oMv (i 0))]
 (xBlock 0 (xLoop (S [p 10 (oLt 3 Z M (t 9) (t 8))]
 (Q (C (t 10) xSkip
 (xExit 0))
 (Q (xBlock 1 (S [m 9, p 6 (oMv (L 0))]
 (S [m 2, m 1, m 6, q (oIaddr 1 (L 1) (L 0)), q (oLoad1 (L 0)), p 17 (oCallV (L 4) [(L 0)])]
 (C (t 17) (S [m 6, p 5 (oMv (L 0))]
 R)
 xSkip))))
 (O [q (oAdd 3 M (t 9) (i 1)), p 9 (oMv (L 0))])))))))
 (S [p 5 (oMv (i 18446744073709551615))]
 R)))
theorem eq_lf209 : lowAt 209 = some lf209 := by kernel_rfl
noncomputable def lf210 : LF := LF.mk [.tmp 5, .tmp 6, .tmp 7] (S [p 5 (oMv (sC .nils)), p 6 (oMv (i 0)), p 7 (oMv (sC .nili))]
 (S [m 1, q (oCall 130 [(L 0)]), w 0, q (oExt (L 0) 0), q (oExt (L 1) 1), p 8 (oMv (L 1)), p 9 (oMv (L 1))]
 (Q (S [m 9, p 16 (oNeN (L 0))]
 (C (t 16) (S [m 2, m 9, q (oCall 129 [(L 1), (L 0)]), p 5 (oMv (sC .nils)), p 6 (oMv (i 0)), p 7 (oMv (L 2))]
 R)
 xSkip))
 (Q (S [m 2, q (oCall 172 [(L 0)]), p 22 (oNot (L 0))]
 (C (t 22) (S [m 2, q (oCall 127 [(L 0), (i 10)]), p 5 (oMv (sC .nils)), p 6 (oMv (i 0)), p 7 (oMv (L 2))]
 R)
 xSkip))
 (S [m 8, m 8, m 2, q (oCall 306 [(L 1), (L 0)]), p 5 (oMv (L 3)), p 6 (oMv (L 1)), p 7 (oMv (sC .nili))]
 R)))))
theorem eq_lf210 : lowAt 210 = some lf210 := by kernel_rfl
noncomputable def lf212 : LF := LF.mk [.tmp 3] (S [p 2 (oBox (t 1)), p 3 (oMv (sC .nils))]
 (S [q (oMkBs (i 32) (i 32)), p 4 (oMv (L 0))]
 (S [m 4, q (oFaddr 0 (t 2)), q (oLoad1 (L 0)), q (oLenS (L 0)), q (oToInt 4 256 (L 0)), q (oIaddr 1 (L 4) (i 0)), q (oStore 1 (L 0) (L 1))]
 (Q (xDr [D (m 4) 2 [], D (q (oSlice 1 (L 0) (some (i 1)) none none)) 1 [], D (q (oFaddr 0 (t 2))) 2 [], D (q (oLoad1 (L 0))) 1 [], D (q (oCopy 1 (L 2) (L 0))) 0 []])
 (Q (S [p 18 (oMv (i 0))]
 (xBlock 0 (xLoop (S [p 19 (oLt 3 Z M (t 18) (i 4))]
 (Q (C (t 19) xSkip
 (xExit 0))
 (Q (xBlock 1 (S [m 18, p 5 (oMv (L 0))]
 (O [m 4, m 5, q (oSub 3 M (i 31) (L 0)), q (oFaddr 1 (t 2)), q (oLoad1 (L 0)), m 5, q (oMul 3 M (i 8) (L 0)), q (oShr 3 64 Z (L 2) (L 0)), q (oToInt 4 256 (L 0)), q (oIaddr 1 (L 8) (L 6)), q (oStore 1 (L 0) (L 1))])))
 (O [q (oAdd 3 M (t 18) (i 1)), p 18 (oMv (L 0))])))))))
 (S [m 4, p 3 (oMv (L 0))]
 R))))))
theorem eq_lf212 : lowAt 212 = some lf212 := by kernel_rfl
noncomputable def lf213 : LF := LF.mk [.tmp 5] (S [p 5 (oMv (sC .nili))]
 (S [m 1, m 2, q (oCall 301 [(L 1), (L 0), (sC (.bool true))]), w 0, q (oExt (L 0) 0), q (oExt (L 1) 1), p 6 (oNew (.cells 4 0 (.node (.node (.node .nil (some (.int 3 0)) .nil) (some (.int 3 0)) .nil) (some (.int 3 0)) (.node .nil (some .nils) .nil)))), q (oStore 4 (L 0) (L 2)), p 7 (oMv (L 2))]
 (Q (S [m 7, p 15 (oNeN (L 0))]
 (C (t 15) (S [m 7, p 5 (oMv (L 0))]
 R)
 xSkip))
 (Q (S [m 1, q (oLoadN 4 (t 6)), q (oCall 307 [(L 1), (L 0), (i 0)]), w 0, q (oExt (L 0) 0), q (oExt (L 1) 1), q (oStore 4 (t 6) (L 1)), p 7 (oMv (L 1))]
 (S [m 7, p 24 (oNeN (L 0))]
 (C (t 24) (S [m 2, m 7, q (oCall 220 [(L 1), (L 0)]), p 5 (oMv (L 0))]
 R)
 xSkip)))
 (S [m 2, m 1, m 2, q (oBuild (.cons (.int 3 0) (.cons (.int 3 0) (.cons .nils (.cons (.int 3 0) .nl)))) []), q (oCall 308 [(L 2), (L 1), (L 0)]), q (oCall 220 [(L 4), (L 0)]), p 5 (oMv (L 0))]
 R)))))
theorem eq_lf213 : lowAt 213 = some lf213 := by kernel_rfl
noncomputable def lf214 : LF := LF.mk [.tmp 5] (S [p 5 (oMv (sC (.bool false)))]
 (S [m 1, m 2, q (oCall 309 [(L 1), (L 0)]), p 5 (oMv (L 0))]
 R))
theorem eq_lf214 : lowAt 214 = some lf214 := by kernel_rfl
noncomputable def lf215 : LF := LF.mk [.tmp 5] (S [p 5 (oMv (sC .nils))]
 (S [m 1, m 2, q (oCall 310 [(L 1), (L 0), (i 0), (i 18446744073709551615)]), p 5 (oMv (L 0))]
 R))
theorem eq_lf215 : lowAt 215 = some lf215 := by kernel_rfl
noncomputable def lf216 : LF := LF.mk [.tmp 5] (S [p 5 (oMv (sC (.bool false)))]
 (S [m 1, m 2, q (oCall 311 [(L 1), (L 0)]), q (oLe 3 Z M (i 0) (L 0)), p 5 (oMv (L 0))]
 R))
theorem eq_lf216 : lowAt 216 = some lf216 := by kernel_rfl
noncomputable def lf217 : LF := LF.mk [.tmp 3] (S [p 3 (oMv (sC (.bool false)))]
 (S [m 1, q (oCall 172 [(L 0)]), q (oNot (L 0)), p 3 (oMv (L 0))]
 R))
theorem eq_lf217 : lowAt 217 = some lf217 := by kernel_rfl
noncomputable def lf218 : LF := LF.mk [.tmp 5] (S [p 5 (oMv (sC (.bool false)))]
 (S [m 2, q (oLe 3 Z M (i 1) (L 0)), w 0, g 0 0 true (oMv (t 2)), g 0 1 true (oMv (t 1)), g 0 2 true (oNilck (L 0)), g 0 3 true (oFaddr 3 (L 0)), g 0 4 true (oLoad1 (L 0)), g 0 5 true (oLe 3 Z M (L 4) (L 0)), q (oPick (L 6) (L 0) (sC (.bool false))), p 5 (oMv (L 0))]
 R))
theorem eq_lf218 : lowAt 218 = some lf218 := by kernel_rfl
noncomputable def lf220 : LF := LF.mk [.tmp 5] (S [p 5 (oMv (sC .nili))]
 (S [m 1, q (oCall 89 [(L 0)]), m 2, q (oCall 96 [(s 5 452824360037), (L 1), (L 0)]), p 5 (oMv (L 0))]
 R))
theorem eq_lf220 : lowAt 220 = some lf220 := by kernel_rfl
noncomputable def lf221 : LF := LF.mk [.tmp 9, .tmp 10] (S [p 9 (oMv (sC .nils)), p 10 (oMv (sC .nili))]
 (S [m 1, m 2, m 3, q (oLe 3 Z M (i 0) (L 0)), w 0, g 0 0 true (oMv (t 4)), g 0 1 true (oLe 3 Z M (i 0) (L 0)), q (oPick (L 2) (L 0) (sC (.bool false))), q (oCall 301 [(L 7), (L 6), (L 0)]), w 0, q (oExt (L 0) 0), q (oExt (L 1) 1), p 11 (oNew (.cells 4 0 (.node (.node (.node .nil (some (.int 3 0)) .nil) (some (.int 3 0)) .nil) (some (.int 3 0)) (.node .nil (some .nils) .nil)))), q (oStore 4 (L 0) (L 2)), p 12 (oMv (L 2))]
 (Q (S [m 12, p 27 (oNeN (L 0))]
 (C (t 27) (S [m 12, p 9 (oMv (sC .nils)), p 10 (oMv (L 1))]
 R)
 xSkip))
 (S [m 1, q (oLoadN 4 (t 11)), q (oCall 304 [(L 1), (L 0)]), w 0, q (oExt (L 0) 0), q (oExt (L 1) 1), p 13 (oMv (L 1)), p 12 (oMv (L 1))]
 (Q (S [m 12, p 36 (oNeN (L 0))]
 (C (t 36) (S [m 2, m 12, q (oCall 220 [(L 1), (L 0)]), p 9 (oMv (sC .nils)), p 10 (oMv (L 1))]
 R)
 xSkip))
 (S [m 3, m 13, q (oLenSl (L 0)), q (oMin 3 Z M (L 2) (L 0)), p 3 (oMv (L 0))]
 (S [m 13, m 3, m 3, m 4, m 13, q (oLenSl (L 0)), m 3, q (oSub 3 M (L 1) (L 0)), q (oMin 3 Z M (L 4) (L 0)), q (oAdd 3 M (L 6) (L 0)), q (oSlice 1 (L 9) (some (L 8)) (some (L 0)) none), q (oCall 297 [(L 0)]), q (oCall 296 [(L 0)]), p 9 (oMv (L 0)), p 10 (oMv (sC .nili))]
 R)))))))
theorem eq_lf221 : lowAt 221 = some lf221 := by kernel_rfl
noncomputable def lf222 : LF := LF.mk [.tmp 5] (S [p 3 (oBox (t 1)), p 4 (oBox (t 2)), p 5 (oMv (sC .nilf))]
 (Q (S [q (oLoad1 (t 4)), p 7 (oLt 3 Z M (L 0) (i 1))]
 (C (t 7) (O [q (oMkIf 9 (s 21 145244896902778293523111026388068782839758314151985)), q (oBad)])
 xSkip))
 (S [q (oMkFn 312 [(t 3), (t 4)]), p 5 (oMv (L 0))]
 R)))
theorem eq_lf222 : lowAt 222 = some lf222 := by kernel_rfl
noncomputable def lf223 : LF := LF.mk [.cellN 3 2, .tmp 4] (S [p 3 (oNew (.cells 2 0 (.node (.node .nil (some (.int 3 0)) .nil) (some (.str 0 0)) .nil))), p 4 (oMv (sC (.bool false)))]
 (S [m 1, q (oIaddr 1 (L 0) (i 0)), q (oLoad1 (L 0)), q (oToInt 3 M (L 0)), p 5 (oMv (L 0))]
 (Q (S [m 5, p 16 (oLt 3 Z M (i 27) (L 0))]
 (C (t 16) (S [q (oBuild (.cons (.str 0 0) (.cons (.int 3 0) .nl)) []), q (oStore 2 (t 3) (L 0)), p 4 (oMv (sC (.bool false)))]
 R)
 xSkip))
 (S [m 1, m 5, q (oAdd 3 M (i 1) (L 0)), q (oSlice 1 (L 2) (some (i 1)) (some (L 0)) none), q (oBsToStr (L 0)), q (oBuild (.cons (.str 0 0) (.cons (.int 3 0) .nl)) [(0, 1, (L 0))]), p 6 (oNew (.cells 2 0 (.node (.node .nil (some (.int 3 0)) .nil) (some (.str 0 0)) .nil))), q (oStore 2 (L 0) (L 1))]
 (Q (S [m 1, m 5, q (oAdd 3 M (i 1) (L 0)), p 27 (oSlice 1 (L 2) (some (L 0)) (some (i 28)) none), p 28 (oLenSl (L 0)), p 29 (oMv (i 0))]
 (xBlock 0 (xLoop (S [p 30 (oLt 3 Z M (t 29) (t 28))]
 (Q (C (t 30) xSkip
 (xExit 0))
 (Q (xBlock 1 (S [q (oIaddr 1 (t 27) (t 29)), q (oLoad1 (L 0)), p 8 (oMv (L 0))]
 (S [m 8, p 34 (oNe (eqI 4) (L 0) (sC (.int 4 0)))]
 (C (t 34) (S [q (oBuild (.cons (.str 0 0) (.cons (.int 3 0) .nl)) []), q (oStore 2 (t 3) (L 0)), p 4 (oMv (sC (.bool false)))]
 R)
 xSkip))))
 (O [q (oAdd 3 M (t 29) (i 1)), p 29 (oMv (L 0))])))))))
 (Q (S [m 1, p 38 (oSlice 1 (L 0) (some (i 28)) (some (i 32)) none), p 39 (oLenSl (L 0)), p 40 (oMv (i 0))]
 (xBlock 2 (xLoop (S [p 41 (oLt 3 Z M (t 40) (t 39))]
 (Q (C (t 41) xSkip
 (xExit 2))
 (Q (xBlock 3 (S [q (oIaddr 1 (t 38) (t 40)), q (oLoad1 (L 0)), p 10 (oMv (L 0))]
 (O [q (oFaddr 1 (t 6)), q (oLoad1 (L 0)), q (oShl 3 64 M (L 0) (sC (.int 7 8))), m 10, q (oToInt 3 M (L 0)), q (oOr 3 (L 2) (L 0)), q (oFaddr 1 (t 6)), q (oStore 1 (L 0) (L 1))])))
 (O [q (oAdd 3 M (t 40) (i 1)), p 40 (oMv (L 0))])))))))
 (Q (xDr [D (q (oLoadN 2 (t 6))) 1 [2], D (q (oFaddr 0 (t 6))) 2 [], D (q (oLoad1 (L 0))) 1 [], D (q (oCall 172 [(L 0)])) 0 [], D (w 0) 2 [], D (g 0 0 true (oFaddr 1 (t 6))) 2 [], D (g 0 1 true (oLoad1 (L 0))) 1 [0], D (g 0 2 true (oLt 3 Z M (i 0) (L 0))) 2 [], D (q (oPick (L 3) (L 0) (sC (.bool false)))) 2 [], D (q (oStore 2 (t 3) (L 8))) 0 [], D (p 4 (oMv (L 1))) 2 []])
 R)))))))
theorem eq_lf223 : lowAt 223 = some lf223 := by kernel_rfl
noncomputable def lf224 : LF := LF.mk [] (S [p 11 (oMv (sC (.bool true)))]
 (S [p 12 (oMv (sC (.bool true)))]
 (xBlock 0 (xLoop (xBlock 1 (S [m 3, m 2, q (oSub 3 M (L 1) (L 0)), p 13 (oMv (L 0))]
 (Q (S [m 13, p 26 (oLe 3 Z M (L 0) (i 12))]
 (C (t 26) (S [m 1, m 2, m 3, m 5, q (oCall 313 [(L 3), (L 2), (L 1), (L 0)])]
 R)
 xSkip))
 (Q (S [m 4, p 33 (oEq (eqI 3) (L 0) (i 0))]
 (C (t 33) (S [m 1, m 2, m 3, m 5, q (oCall 314 [(L 3), (L 2), (L 1), (L 0)])]
 R)
 xSkip))
 (Q (S [m 11, p 40 (oNot (L 0))]
 (C (t 40) (S [m 1, m 2, m 3, m 5, q (oCall 315 [(L 3), (L 2), (L 1), (L 0)])]
 (O [m 4, q (oSub 3 M (L 0) (i 1)), p 4 (oMv (L 0))]))
 xSkip))
 (S [m 1, m 2, m 3, m 5, q (oCall 316 [(L 3), (L 2), (L 1), (L 0)]), w 0, q (oExt (L 0) 0), q (oExt (L 1) 1), p 14 (oMv (L 1)), p 15 (oMv (L 1))]
 (Q (S [m 15, p 57 (oEq (eqI 3) (L 0) (i 2))]
 (C (t 57) (S [m 1, m 2, m 3, m 5, q (oCall 317 [(L 3), (L 2), (L 1), (L 0)])]
 (S [m 3, q (oSub 3 M (L 0) (i 1)), m 14, m 2, q (oSub 3 M (L 1) (L 0)), q (oSub 3 M (L 3) (L 0)), p 14 (oMv (L 0))]
 (O [p 15 (oMv (i 1))])))
 xSkip))
 (Q (S [m 11, w 0, g 0 0 true (oMv (t 12)), q (oPick (L 1) (L 0) (sC (.bool false))), w 0, g 0 0 true (oMv (t 15)), g 0 1 true (oEq (eqI 3) (L 0) (i 1)), p 76 (oPick (L 2) (L 0) (sC (.bool false)))]
 (C (t 76) (S [m 1, m 2, m 3, m 5, p 81 (oCall 318 [(L 3), (L 2), (L 1), (L 0)])]
 (C (t 81) R
 xSkip))
 xSkip))
 (Q (Q (xDr [D (m 2) 2 [], D (q (oLt 3 Z M (i 0) (L 0))) 2 [], D (w 0) 2 [], D (g 0 0 true (oMv (t 5))) 2 [], D (g 0 1 true (oMv (t 1))) 2 [], D (g 0 2 true (oMv (t 2))) 2 [], D (g 0 3 true (oSub 3 M (L 0) (i 1))) 2 [], D (g 0 4 true (oIaddr 1 (L 2) (L 0))) 2 [], D (g 0 5 true (oLoad1 (L 0))) 1 [], D (g 0 6 true (oMv (t 1))) 2 [], D (g 0 7 true (oMv (t 14))) 2 [], D (g 0 8 true (oIaddr 1 (L 1) (L 0))) 2 [], D (g 0 9 true (oLoad1 (L 0))) 1 [], D (g 0 10 true (oCallV (L 9) [(L 4), (L 0)])) 0 [], D (g 0 11 true (oLt 3 Z M (L 0) (i 0))) 2 [], D (g 0 12 true (oNot (L 0))) 2 [], D (p 98 (oPick (L 13) (L 0) (sC (.bool false)))) 2 []])
 (C (t 98) (S [m 1, m 2, m 3, m 14, m 5, q (oCall 319 [(L 4), (L 3), (L 2), (L 1), (L 0)]), p 16 (oMv (L 0))]
 (S [m 16, p 2 (oMv (L 0))]
 (xExit 1)))
 xSkip))
 (S [m 1, m 2, m 3, m 14, m 5, q (oCall 320 [(L 4), (L 3), (L 2), (L 1), (L 0)]), w 0, q (oExt (L 0) 0), q (oExt (L 1) 1), p 17 (oMv (L 1)), p 18 (oMv (L 1))]
 (S [m 18, p 12 (oMv (L 0))]
 (S [m 17, m 2, q (oSub 3 M (L 1) (L 0)), m 3, m 17, q (oSub 3 M (L 1) (L 0)), p 19 (oMv (L 3)), p 20 (oMv (L 1))]
 (S [m 13, q (oQuo 3 Z (L 0) (i 8)), p 21 (oMv (L 0))]
 (S [m 19, m 20, p 126 (oLt 3 Z M (L 1) (L 0))]
 (C (t 126) (S [m 19, m 21, q (oLe 3 Z M (L 0) (L 1)), p 11 (oMv (L 0))]
 (S [m 1, m 2, m 17, m 4, m 5, q (oCall 224 [(L 4), (L 3), (L 2), (L 1), (L 0)])]
 (O [m 17, q (oAdd 3 M (L 0) (i 1)), p 2 (oMv (L 0))])))
 (S [m 20, m 21, q (oLe 3 Z M (L 0) (L 1)), p 11 (oMv (L 0))]
 (S [m 1, m 17, q (oAdd 3 M (L 0) (i 1)), m 3, m 4, m 5, q (oCall 224 [(L 5), (L 3), (L 2), (L 1), (L 0)])]
 (O [m 17, p 3 (oMv (L 0))]))))))))))))))))))))))
theorem eq_lf224 : lowAt 224 = some lf224 := by kernel_rfl
noncomputable def lf225 : LF := LF.mk [.tmp 3] (S [p 3 (oMv (i 0))]
 (Q (C (sC (.bool false)) (S [m 1, q (oToInt 6 4294967296 (L 0)), q (oCall 321 [(L 0)]), p 3 (oMv (L 0))]
 R)
 xSkip)
 (S [m 1, q (oCall 322 [(L 0)]), p 3 (oMv (L 0))]
 R)))
theorem eq_lf225 : lowAt 225 = some lf225 := by kernel_rfl
noncomputable def lf227 : LF := LF.mk [.tmp 5, .tmp 6] (S [p 5 (oMv (s 0 0)), p 6 (oMv (sC (.bool false)))]
 (Q (S [m 1, m 2, q (oCall 324 [(L 1), (L 0)]), p 10 (oNot (L 0))]
 (C (t 10) (S [m 1, p 5 (oMv (L 0)), p 6 (oMv (sC (.bool false)))]
 R)
 xSkip))
 (S [m 1, m 1, q (oLenS (L 0)), m 2, q (oLenS (L 0)), q (oSub 3 M (L 2) (L 0)), q (oSliceS (L 5) none (some (L 0))), p 5 (oMv (L 0)), p 6 (oMv (sC (.bool true)))]
 R)))
theorem eq_lf227 : lowAt 227 = some lf227 := by kernel_rfl
noncomputable def lf228 : LF := LF.mk [.tmp 5] (S [p 5 (oMv (i 0))]
 (Q (S [m 1, q (oLenS (L 0)), q (oSub 3 M (L 0) (i 1)), p 6 (oMv (L 0))]
 (xBlock 0 (xLoop (Q (S [m 6, p 11 (oLe 3 Z M (i 0) (L 0))]
 (C (t 11) xSkip
 (xExit 0)))
 (Q (xBlock 1 (S [m 1, m 6, q (oIdxS (L 1) (L 0)), m 2, p 18 (oEq (eqI 4) (L 1) (L 0))]
 (C (t 18) (S [m 6, p 5 (oMv (L 0))]
 R)
 xSkip)))
 (O [m 6, q (oSub 3 M (L 0) (i 1)), p 6 (oMv (L 0))]))))))
 (S [p 5 (oMv (i 18446744073709551615))]
 R)))
theorem eq_lf228 : lowAt 228 = some lf228 := by kernel_rfl
noncomputable def lf229 : LF := LF.mk [.tmp 5, .tmp 6, .tmp 7] (S [p 5 (oMv (s 0 0)), p 6 (oMv (s 0 0)), p 7 (oMv (sC (.bool false)))]
 (S [m 1, m 2, q (oCall 325 [(L 1), (L 0)]), q (oExt (L 0) 0), q (oExt (L 1) 1), q (oExt (L 2) 2), p 5 (oMv (L 2)), p 6 (oMv (L 2)), p 7 (oMv (L 2))]
 R))
theorem eq_lf229 : lowAt 229 = some lf229 := by kernel_rfl
noncomputable def lf230 : LF := LF.mk [.tmp 3, .tmp 4] (S [p 3 (oMv (i 0)), p 4 (oMv (sC (.bool false)))]
 (Q (S [m 1, p 9 (oLenS (L 0))]
 (xBlock 0 (Q (xBlock 2 (Q (xBlock 1 (Q (Q (S [q (oEq (eqI 3) (t 9) (i 2)), p 10 (oMv (L 0))]
 (C (t 10) (xExit 1)
 xSkip))
 (S [q (oEq (eqI 3) (t 9) (i 1)), p 12 (oMv (L 0))]
 (C (t 12) (xExit 2)
 xSkip)))
 (xExit 0)))
 (S [m 1, q (oIdxS (L 0) (i 0)), q (oLt 4 0 256 (L 0) (sC (.int 4 49))), w 0, g 0 0 false (oMv (t 1)), g 0 1 false (oIdxS (L 0) (i 0)), g 0 2 false (oLt 4 0 256 (sC (.int 4 57)) (L 0)), p 21 (oPick (L 3) (sC (.bool true)) (L 0))]
 (C (t 21) (S [p 3 (oMv (i 0)), p 4 (oMv (sC (.bool false)))]
 R)
 xSkip))))
 (Q (S [m 1, m 1, q (oLenS (L 0)), q (oSub 3 M (L 0) (i 1)), q (oIdxS (L 3) (L 0)), p 5 (oMv (L 0))]
 (Q (S [m 5, q (oLt 4 0 256 (L 0) (sC (.int 4 48))), w 0, g 0 0 false (oMv (t 5)), g 0 1 false (oLt 4 0 256 (sC (.int 4 57)) (L 0)), p 32 (oPick (L 2) (sC (.bool true)) (L 0))]
 (C (t 32) (S [p 3 (oMv (i 0)), p 4 (oMv (sC (.bool false)))]
 R)
 xSkip))
 (S [m 1, q (oCall 326 [(L 0)]), w 0, q (oExt (L 0) 0), q (oExt (L 1) 1), p 6 (oMv (L 1)), p 7 (oMv (L 1))]
 (Q (xDr [D (m 6) 2 [], D (m 7) 2 [], D (q (oEqN (L 0))) 2 [], D (p 3 (oMv (L 2))) 2 [], D (p 4 (oMv (L 1))) 2 []])
 R))))
 (xExit 0)))))
 (S [p 3 (oMv (i 0)), p 4 (oMv (sC (.bool false)))]
 R)))
theorem eq_lf230 : lowAt 230 = some lf230 := by kernel_rfl
noncomputable def lf231 : LF := LF.mk [.tmp 4] (S [p 4 (oMv (sC .nili))]
 (S [q (oLoad1 (t 1)), q (oLoad1 (t 2)), q (oCall 57 [(L 1), (L 0)]), w 0, q (oExt (L 0) 0), q (oExt (L 1) 1), p 5 (oMv (L 1)), p 6 (oMv (L 1))]
 (Q (S [m 6, p 14 (oEqN (L 0))]
 (C (t 14) (O [q (oLoad1 (t 1)), m 5, q (oCall 232 [(L 1), (L 0)]), w 0, q (oExt (L 0) 0), q (oExt (L 1) 1), q (oStore 3 (t 3) (L 1)), p 6 (oMv (L 1))])
 xSkip))
 (S [m 6, p 4 (oMv (L 0))]
 R))))
theorem eq_lf231 : lowAt 231 = some lf231 := by kernel_rfl
noncomputable def lf232 : LF := LF.mk [.cellN 5 3, .tmp 6] (S [p 5 (oNew (.cells 3 0 (.node (.node .nil (some (.int 3 0)) .nil) (some (.bool false)) (.node .nil (some (.int 3 0)) .nil)))), p 6 (oMv (sC .nili))]
 (S [m 1, q (oNilck (L 0)), q (oFaddr 2 (L 0)), q (oLoad1 (L 0)), m 2, q (oCall 128 [(L 1), (L 0)]), w 0, q (oExt (L 0) 0), q (oExt (L 1) 1), p 7 (oMv (L 1)), p 8 (oMv (L 1))]
 (Q (S [m 8, p 22 (oNeN (L 0))]
 (C (t 22) (S [q (oBuild (.cons (.bool false) (.cons (.int 3 0) (.cons (.int 3 0) .nl))) []), m 8, q (oStore 3 (t 5) (L 1)), p 6 (oMv (L 1))]
 R)
 xSkip))
 (Q (S [m 7, p 26 (oEq (eqI 3) (L 0) (i 2))]
 (C (t 26) (S [m 1, m 2, q (oCall 211 [(L 1), (L 0)]), w 0, q (oExt (L 0) 0), q (oExt (L 1) 1), p 9 (oMv (L 1)), p 10 (oMv (L 1))]
 (S [m 9, q (oLenSl (L 0)), q (oBuild (.cons (.bool false) (.cons (.int 3 0) (.cons (.int 3 0) .nl))) [(0, 1, (sC (.bool true))), (1, 1, (L 0))]), m 10, q (oStore 3 (t 5) (L 1)), p 6 (oMv (L 1))]
 R))
 xSkip))
 (S [m 1, q (oNilck (L 0)), q (oFaddr 2 (L 0)), q (oLoad1 (L 0)), m 2, q (oCall 201 [(L 1), (L 0)]), w 0, q (oExt (L 0) 0), q (oExt (L 1) 1), p 11 (oMv (L 1)), p 8 (oMv (L 1))]
 (S [m 11, m 1, q (oNilck (L 0)), q (oFaddr 6 (L 0)), q (oLoad1 (L 0)), m 2, q (oLookup false (.int 3 0) false (L 1) (L 0)), q (oBuild (.cons (.bool false) (.cons (.int 3 0) (.cons (.int 3 0) .nl))) [(1, 1, (L 6)), (2, 1, (L 0))]), m 8, q (oStore 3 (t 5) (L 1)), p 6 (oMv (L 1))]
 R))))))
theorem eq_lf232 : lowAt 232 = some lf232 := by kernel_rfl
noncomputable def lf233 : LF := LF.mk [.tmp 5] (S [p 5 (oMv (sC .nils))]
 (S [m 1, m 2, q (oCall 327 [(L 1), (L 0)]), p 6 (oMv (L 0))]
 (Q (S [m 6, p 13 (oEq (eqI 3) (L 0) (i 18446744073709551615))]
 (C (t 13) (S [m 1, p 5 (oMv (L 0))]
 R)
 xSkip))
 (Q (S [m 6, q (oAdd 3 M (L 0) (i 1)), p 7 (oMv (L 0))]
 (xBlock 0 (xLoop (Q (S [m 7, m 1, q (oLenSl (L 0)), p 20 (oLt 3 Z M (L 2) (L 0))]
 (C (t 20) xSkip
 (xExit 0)))
 (Q (xBlock 1 (S [m 1, m 7, q (oIaddr 6 (L 1) (L 0)), q (oLoadN 6 (L 0)), p 8 (oNew (.cells 6 0 (.node (.node (.node .nil (some (.int 3 0)) .nil) (some (.str 0 0)) (.node .nil (some (.str 0 0)) .nil)) (some (.str 0 0)) (.node (.node .nil (some (.int 3 0)) .nil) (some (.bool false)) .nil)))), q (oStore 6 (L 0) (L 1))]
 (S [m 2, q (oLoadN 6 (t 8)), q (oCallV (L 1) [(L 0)]), p 30 (oNot (L 0))]
 (C (t 30) (S [m 1, m 6, q (oLoadN 6 (t 8)), q (oIaddr 6 (L 2) (L 1)), q (oStore 6 (L 0) (L 1))]
 (O [m 6, q (oAdd 3 M (L 0) (i 1)), p 6 (oMv (L 0))]))
 xSkip))))
 (O [m 7, q (oAdd 3 M (L 0) (i 1)), p 7 (oMv (L 0))]))))))
 (S [m 1, m 6, q (oSlice 6 (L 1) (some (L 0)) none none), q (oBad)]
 (S [m 1, m 6, q (oSlice 6 (L 1) none (some (L 0)) none), p 5 (oMv (L 0))]
 R))))))
theorem eq_lf233 : lowAt 233 = some lf233 := by kernel_rfl
noncomputable def lf234 : LF := LF.mk [.tmp 3] (S [p 2 (oBox (t 1)), p 3 (oMv (sC (.bool false)))]
 (S [q (oFaddr 2 (t 2)), q (oLoadN 3 (L 0)), q (oCall 147 [(L 0)]), q (oNe (eqI 3) (L 0) (i 0)), p 3 (oMv (L 0))]
 R))
theorem eq_lf234 : lowAt 234 = some lf234 := by kernel_rfl
noncomputable def lf235 : LF := LF.mk [.tmp 5] (S [p 5 (oMv (i 0))]
 (Q (S [m 1, p 8 (oLenSl (L 0)), p 9 (oMv (i 0))]
 (xBlock 0 (xLoop (S [p 10 (oLt 3 Z M (t 9) (t 8))]
 (Q (C (t 10) xSkip
 (xExit 0))
 (Q (xBlock 1 (S [m 9, p 6 (oMv (L 0))]
 (S [m 2, m 1, m 6, q (oIaddr 2 (L 1) (L 0)), q (oLoadN 2 (L 0)), p 17 (oCallV (L 4) [(L 0)])]
 (C (t 17) (S [m 6, p 5 (oMv (L 0))]
 R)
 xSkip))))
 (O [q (oAdd 3 M (t 9) (i 1)), p 9 (oMv (L 0))])))))))
 (S [p 5 (oMv (i 18446744073709551615))]
 R)))
theorem eq_lf235 : lowAt 235 = some lf235 := by kernel_rfl
noncomputable def lf236 : LF := LF.mk [.tmp 5, .tmp 6] (S [p 4 (oBox (t 2)), p 5 (oMv (sC .nils)), p 6 (oMv (sC .nili))]
 (Q (S [m 1, p 10 (oEq eqP2 (L 0) (sC .nilp))]
 (C (t 10) (S [q (oFaddr 0 (t 4)), q (oLoad1 (L 0)), q (oCall 87 [(s 4 1936023916), (L 0), (i 1)]), p 5 (oMv (sC .nils)), p 6 (oMv (L 1))]
 R)
 xSkip))
 (S [m 1, q (oFaddr 0 (t 4)), q (oLoad1 (L 0)), q (oCat (s 7 13337541770113839) (L 0)), q (oCall 148 [(L 3), (L 0)]), w 0, q (oExt (L 0) 0), q (oExt (L 1) 1), p 7 (oMv (L 1)), p 8 (oMv (L 1))]
 (Q (xBlock 0 (S [m 8, q (oCall 328 [(L 0)]), p 22 (oMv (L 0))]
 (C (t 22) (S [q (oFaddr 0 (t 4)), q (oLoad1 (L 0)), q (oCall 87 [(s 4 1936023916), (L 0), (i 31)]), p 5 (oMv (sC .nils)), p 6 (oMv (L 1))]
 R)
 (S [m 8, q (oNeN (L 0)), p 28 (oMv (L 0))]
 (C (t 28) (S [q (oFaddr 0 (t 4)), q (oLoad1 (L 0)), m 8, q (oCall 96 [(s 4 1936023916), (L 1), (L 0)]), p 5 (oMv (sC .nils)), p 6 (oMv (L 1))]
 R)
 (Q (xDr [D (m 7) 2 [], D (q (oCall 88 [(L 0)])) 0 [], D (q (oFaddr 1 (t 4))) 2 [], D (q (oLoad1 (L 0))) 1 [5], D (q (oNe eqS (L 2) (L 0))) 2 [], D (p 35 (oMv (L 0))) 2 []])
 (C (t 35) (S [q (oFaddr 0 (t 4)), q (oLoad1 (L 0)), q (oCall 87 [(s 4 1936023916), (L 0), (i 32)]), p 5 (oMv (sC .nils)), p 6 (oMv (L 1))]
 R)
 xSkip)))))))
 (S [m 7, p 5 (oMv (L 0)), p 6 (oMv (sC .nili))]
 R)))))
theorem eq_lf236 : lowAt 236 = some lf236 := by kernel_rfl
noncomputable def lf237 : LF := LF.mk [.tmp 5, .tmp 6] (S [p 5 (oMv (i 0)), p 6 (oMv (sC (.bool false)))]
 (Q (S [m 2, q (oLt 3 Z M (L 0) (i 0)), w 0, g 0 0 false (oMv (t 2)), g 0 1 false (oLt 3 Z M (i 1073741824) (L 0)), p 15 (oPick (L 2) (sC (.bool true)) (L 0))]
 (C (t 15) (S [p 5 (oMv (i 0)), p 6 (oMv (sC (.bool false)))]
 R)
 xSkip))
 (Q (S [m 1, p 17 (oCall 329 [(L 0)]), p 18 (oLenSl (L 0)), p 19 (oMv (i 0))]
 (xBlock 0 (xLoop (S [p 20 (oLt 3 Z M (t 19) (t 18))]
 (Q (C (t 20) xSkip
 (xExit 0))
 (Q (xBlock 1 (S [q (oIaddr 2 (t 17) (t 19)), q (oLoadN 2 (L 0)), p 8 (oNew (.cells 2 0 (.node (.node .nil (some (.int 3 0)) .nil) (some (.int 3 0)) .nil))), q (oStore 2 (L 0) (L 1))]
 (S [q (oFaddr 0 (t 8)), q (oLoad1 (L 0)), q (oCall 239 [(L 0)]), p 9 (oMv (L 0))]
 (S [m 9, m 2, q (oMax 3 Z M (L 0) (i 1)), q (oAdd 3 M (L 2) (L 0)), q (oFaddr 1 (t 8)), q (oLoad1 (L 0)), p 32 (oLe 3 Z M (L 2) (L 0))]
 (C (t 32) (S [m 9, p 5 (oMv (L 0)), p 6 (oMv (sC (.bool true)))]
 R)
 xSkip)))))
 (O [q (oAdd 3 M (t 19) (i 1)), p 19 (oMv (L 0))])))))))
 (S [p 5 (oMv (i 0)), p 6 (oMv (sC (.bool false)))]
 R))))
theorem eq_lf237 : lowAt 237 = some lf237 := by kernel_rfl
noncomputable def lf238 : LF := LF.mk [.tmp 5] (S [p 4 (oBox (t 2)), p 5 (oMv (sC .nils))]
 (S [m 1, q (oCall 329 [(L 0)]), p 6 (oMv (L 0))]
 (Q (S [q (oFaddr 1 (t 4)), q (oLoad1 (L 0)), q (oFaddr 0 (t 4)), q (oLoad1 (L 0)), p 17 (oLe 3 Z M (L 2) (L 0))]
 (C (t 17) (S [m 6, p 5 (oMv (L 0))]
 R)
 xSkip))
 (S [p 7 (oMv (sC .nils))]
 (Q (S [p 19 (oMv (t 6)), p 20 (oLenSl (L 0)), p 21 (oMv (i 0))]
 (xBlock 0 (xLoop (S [p 22 (oLt 3 Z M (t 21) (t 20))]
 (Q (C (t 22) xSkip
 (xExit 0))
 (Q (xBlock 1 (S [q (oIaddr 2 (t 19) (t 21)), q (oLoadN 2 (L 0)), p 9 (oNew (.cells 2 0 (.node (.node .nil (some (.int 3 0)) .nil) (some (.int 3 0)) .nil))), q (oStore 2 (L 0) (L 1))]
 (S [q (oLoadN 2 (t 9)), q (oLoadN 2 (t 4)), q (oCall 330 [(L 1), (L 0)]), p 10 (oMv (L 0))]
 (S [p 28 (oMv (t 10))]
 (xBlock 2 (Q (xBlock 5 (Q (xBlock 4 (Q (xBlock 3 (Q (Q (S [q (oEq (eqI 3) (t 28) (i 0)), p 29 (oMv (L 0))]
 (C (t 29) (xExit 3)
 xSkip))
 (Q (Q (S [q (oEq (eqI 3) (t 28) (i 3)), p 31 (oMv (L 0))]
 (C (t 31) xSkip
 (O [q (oEq (eqI 3) (t 28) (i 1)), p 31 (oMv (L 0))])))
 (C (t 31) (xExit 4)
 xSkip))
 (S [q (oEq (eqI 3) (t 28) (i 2)), p 34 (oMv (L 0))]
 (C (t 34) (xExit 5)
 xSkip))))
 (xExit 2)))
 (S [m 7, q (oLoadN 2 (t 9)), q (oBuildSl 1 2 (.cons (.int 3 0) (.cons (.int 3 0) .nl)) [(0, (L 0))]), q (oAppend 2 16 (L 2) (L 0)), p 7 (oMv (L 0))]
 (xExit 2))))
 (S [m 7, q (oFaddr 0 (t 9)), q (oLoad1 (L 0)), q (oFaddr 0 (t 4)), q (oLoad1 (L 0)), q (oBuild (.cons (.int 3 0) (.cons (.int 3 0) .nl)) [(0, 1, (L 2)), (1, 1, (L 0))]), q (oBuildSl 1 2 (.cons (.int 3 0) (.cons (.int 3 0) .nl)) [(0, (L 0))]), q (oAppend 2 16 (L 6) (L 0)), p 7 (oMv (L 0))]
 (S [m 10, p 49 (oEq (eqI 3) (L 0) (i 1))]
 (C (t 49) (xExit 2)
 xSkip)))))
 (S [m 7, q (oFaddr 1 (t 4)), q (oLoad1 (L 0)), q (oFaddr 1 (t 9)), q (oLoad1 (L 0)), q (oBuild (.cons (.int 3 0) (.cons (.int 3 0) .nl)) [(0, 1, (L 2)), (1, 1, (L 0))]), q (oBuildSl 1 2 (.cons (.int 3 0) (.cons (.int 3 0) .nl)) [(0, (L 0))]), q (oAppend 2 16 (L 6) (L 0)), p 7 (oMv (L 0))]
 (xExit 2))))))))
 (O [q (oAdd 3 M (t 21) (i 1)), p 21 (oMv (L 0))])))))))
 (S [m 7, q (oCall 331 [(L 0)]), p 5 (oMv (L 0))]
 R))))))
theorem eq_lf238 : lowAt 238 = some lf238 := by kernel_rfl
noncomputable def lf239 : LF := LF.mk [.tmp 3] (S [p 3 (oMv (i 0))]
 (S [m 1, q (oAdd 3 M (L 0) (i 16)), q (oSub 3 M (L 0) (i 1)), q (oQuo 3 Z (L 0) (i 16)), q (oMul 3 M (L 0) (i 16)), p 3 (oMv (L 0))]
 R))
theorem eq_lf239 : lowAt 239 = some lf239 := by kernel_rfl
noncomputable def lf240 : LF := LF.mk [.tmp 3] (S [p 3 (oMv (sC (.bool false)))]
 (S [m 1, q (oLt 3 Z M (L 0) (i 0)), p 3 (oMv (L 0))]
 R))
theorem eq_lf240 : lowAt 240 = some lf240 := by kernel_rfl
noncomputable def lf241 : LF := LF.mk [.tmp 5] (S [p 5 (oMv (sC (.bool false)))]
 (S [m 1, m 2, q (oCall 332 [(L 1), (L 0)]), q (oLe 3 Z M (i 0) (L 0)), p 5 (oMv (L 0))]
 R))
theorem eq_lf241 : lowAt 241 = some lf241 := by kernel_rfl
noncomputable def lf242 : LF := LF.mk [.tmp 7] (S [p 7 (oMv (sC .nils))]
 (S [p 8 (oMv (sC .nils))]
 (S [p 9 (oMv (i 0))]
 (Q (S [m 1, p 11 (oEq eqS (L 0) (s 0 0))]
 (C (t 11) (O [p 9 (oMv (i 1))])
 xSkip))
 (Q (S [p 12 (oMv (t 9))]
 (xBlock 0 (Q (xBlock 3 (Q (xBlock 2 (Q (xBlock 1 (Q (Q (S [q (oEq (eqI 3) (t 12) (i 0)), p 13 (oMv (L 0))]
 (C (t 13) (xExit 1)
 xSkip))
 (Q (S [q (oEq (eqI 3) (t 12) (i 1)), p 15 (oMv (L 0))]
 (C (t 15) (xExit 2)
 xSkip))
 (S [q (oEq (eqI 3) (t 12) (i 2)), p 17 (oMv (L 0))]
 (C (t 17) (xExit 3)
 xSkip))))
 (xExit 0)))
 (O [m 8, m 1, q (oBuildSl 1 1 (.cons (.str 0 0) .nl) [(0, (L 0))]), q (oAppend 1 16 (L 2) (L 0)), p 8 (oMv (L 0))])))
 (O [m 8, m 2, q (oCat (s 6 111525074467133) (L 0)), q (oBuildSl 1 1 (.cons (.str 0 0) .nl) [(0, (L 0))]), q (oAppend 1 16 (L 3) (L 0)), p 8 (oMv (L 0))])))
 (Q (S [p 28 (oMv (t 3))]
 (C (t 28) (O [m 8, q (oBuildSl 1 1 (.cons (.str 0 0) .nl) [(0, (s 6 128035012046439))]), q (oAppend 1 16 (L 1) (L 0)), p 8 (oMv (L 0))])
 xSkip))
 (xExit 0)))))
 (S [m 8, p 7 (oMv (L 0))]
 R))))))
theorem eq_lf242 : lowAt 242 = some lf242 := by kernel_rfl
noncomputable def lf243 : LF := LF.mk [.tmp 5] (S [p 5 (oMv (s 0 0))]
 (Q (S [m 1, p 13 (oLenSl (L 0))]
 (xBlock 0 (S [q (oEq (eqI 3) (t 13) (i 0)), p 14 (oMv (L 0))]
 (C (t 14) (S [p 5 (oMv (s 0 0))]
 R)
 (S [q (oEq (eqI 3) (t 13) (i 1)), p 16 (oMv (L 0))]
 (C (t 16) (S [m 1, q (oIaddr 1 (L 0) (i 0)), q (oLoad1 (L 0)), p 5 (oMv (L 0))]
 R)
 xSkip))))))
 (S [p 6 (oMv (i 0))]
 (Q (S [m 2, q (oLenS (L 0)), p 23 (oLt 3 Z M (i 0) (L 0))]
 (C (t 23) (Q (S [m 2, q (oLenS (L 0)), m 1, q (oLenSl (L 0)), q (oSub 3 M (L 0) (i 1)), q (oQuo 3 Z (i 9223372036854775807) (L 0)), p 30 (oLe 3 Z M (L 0) (L 4))]
 (C (t 30) (O [q (oMkIf 9 (s 36 224290585932187492254785139548022567174022358584336590143443395708218495032327848882039)), q (oBad)])
 xSkip))
 (O [m 6, m 2, q (oLenS (L 0)), m 1, q (oLenSl (L 0)), q (oSub 3 M (L 0) (i 1)), q (oMul 3 M (L 3) (L 0)), q (oAdd 3 M (L 6) (L 0)), p 6 (oMv (L 0))]))
 xSkip))
 (Q (S [p 40 (oMv (t 1)), p 41 (oLenSl (L 0)), p 42 (oMv (i 0))]
 (xBlock 1 (xLoop (S [p 43 (oLt 3 Z M (t 42) (t 41))]
 (Q (C (t 43) xSkip
 (xExit 1))
 (Q (xBlock 2 (S [q (oIaddr 1 (t 40) (t 42)), q (oLoad1 (L 0)), p 8 (oMv (L 0))]
 (Q (S [m 8, q (oLenS (L 0)), m 6, q (oSub 3 M (i 9223372036854775807) (L 0)), p 50 (oLt 3 Z M (L 0) (L 2))]
 (C (t 50) (O [q (oMkIf 9 (s 36 224290585932187492254785139548022567174022358584336590143443395708218495032327848882039)), q (oBad)])
 xSkip))
 (O [m 6, m 8, q (oLenS (L 0)), q (oAdd 3 M (L 2) (L 0)), p 6 (oMv (L 0))]))))
 (O [q (oAdd 3 M (t 42) (i 1)), p 42 (oMv (L 0))])))))))
 (S [p 9 (oNew (.var 267 2 (.node (.node .nil (some .nils) .nil) (some .nilp) .nil)))]
 (S [m 6, q (oCall 333 [(t 9), (L 0)])]
 (S [m 1, q (oIaddr 1 (L 0) (i 0)), q (oLoad1 (L 0)), q (oCall 184 [(t 9), (L 0)])]
 (Q (S [m 1, p 64 (oSlice 1 (L 0) (some (i 1)) none none), p 65 (oLenSl (L 0)), p 66 (oMv (i 0))]
 (xBlock 3 (xLoop (S [p 67 (oLt 3 Z M (t 66) (t 65))]
 (Q (C (t 67) xSkip
 (xExit 3))
 (Q (xBlock 4 (S [q (oIaddr 1 (t 64) (t 66)), q (oLoad1 (L 0)), p 11 (oMv (L 0))]
 (S [m 2, q (oCall 184 [(t 9), (L 0)])]
 (O [m 11, q (oCall 184 [(t 9), (L 0)])]))))
 (O [q (oAdd 3 M (t 66) (i 1)), p 66 (oMv (L 0))])))))))
 (S [q (oCall 185 [(t 9)]), p 5 (oMv (L 0))]
 R))))))))))
theorem eq_lf243 : lowAt 243 = some lf243 := by kernel_rfl
noncomputable def lf244 : LF := LF.mk [.tmp 4] (S [p 4 (oMv (sC .nili))]
 (S [q (oLoad1 (t 1)), q (oLoad1 (t 2)), q (oCall 57 [(L 1), (L 0)]), w 0, q (oExt (L 0) 0), q (oExt (L 1) 1), p 5 (oMv (L 1)), p 6 (oMv (L 1))]
 (Q (S [m 6, p 14 (oEqN (L 0))]
 (C (t 14) (O [q (oLoad1 (t 1)), m 5, q (oCall 200 [(L 1), (L 0)]), p 6 (oMv (L 0))])
 xSkip))
 (Q (S [m 6, p 19 (oEqN (L 0))]
 (C (t 19) (O [q (oLoad1 (t 1)), q (oNilck (L 0)), q (oFaddr 2 (L 0)), q (oLoad1 (L 0)), m 5, q (oCall 221 [(L 1), (L 0), (i 0), (i 4000)]), w 0, q (oExt (L 0) 0), q (oExt (L 1) 1), q (oStore 1 (t 3) (L 1)), p 6 (oMv (L 1))])
 xSkip))
 (S [m 6, p 4 (oMv (L 0))]
 R)))))
theorem eq_lf244 : lowAt 244 = some lf244 := by kernel_rfl
noncomputable def lf245 : LF := LF.mk [.tmp 5] (S [p 5 (oMv (sC .nilf))]
 (S [m 1, m 2, q (oCall 334 [(L 1), (L 0), (i 0)]), p 5 (oMv (L 0))]
 R))
theorem eq_lf245 : lowAt 245 = some lf245 := by kernel_rfl
noncomputable def lf246 : LF := LF.mk [.tmp 5] (S [p 5 (oMv (sC (.bool false)))]
 (S [m 2, q (oCall 229 [(L 0), (s 1 32)]), w 0, q (oExt (L 0) 0), q (oExt (L 1) 1), q (oExt (L 2) 2), p 6 (oMv (L 2)), p 7 (oMv (L 2)), w 2]
 (S [p 9 (oMv (sC (.bool false)))]
 (Q (S [p 17 (oMv (t 6))]
 (xBlock 0 (Q (xBlock 4 (Q (xBlock 3 (Q (xBlock 2 (Q (xBlock 1 (Q (Q (S [q (oEq eqS (t 17) (s 7 33325589488824174)), p 18 (oMv (L 0))]
 (C (t 18) (xExit 1)
 xSkip))
 (Q (S [q (oEq eqS (t 17) (s 7 31367367702310515)), p 20 (oMv (L 0))]
 (C (t 20) (xExit 2)
 xSkip))
 (Q (S [q (oEq eqS (t 17) (s 6 118083455706476)), p 22 (oMv (L 0))]
 (C (t 22) (xExit 3)
 xSkip))
 (S [q (oEq eqS (t 17) (s 5 435812594273)), p 24 (oMv (L 0))]
 (C (t 24) (xExit 4)
 xSkip)))))
 (xExit 0)))
 (Q (S [m 1, q (oNilck (L 0)), q (oFaddr 0 (L 0)), q (oLoad1 (L 0)), q (oEq eqS (L 0) (s 0 0)), w 0, g 0 0 true (oMv (t 7)), g 0 1 true (oCall 90 [(L 0), (i 1), (i 40), (sC (.int 4 33))]), q (oPick (L 2) (L 0) (sC (.bool false))), p 9 (oMv (L 0))]
 (O [m 1, m 7, q (oNilck (L 1)), q (oFaddr 0 (L 0)), q (oStore 1 (L 0) (L 2))]))
 (xExit 0))))
 (Q (S [m 1, q (oNilck (L 0)), q (oFaddr 4 (L 0)), q (oLoad1 (L 0)), q (oEq eqS (L 0) (s 0 0)), w 0, g 0 0 true (oMv (t 7)), g 0 1 true (oNe eqS (L 0) (s 0 0)), q (oPick (L 2) (L 0) (sC (.bool false))), w 0, g 0 0 true (oMv (t 7)), g 0 1 true (oCall 91 [(L 0)]), q (oPick (L 2) (L 0) (sC (.bool false))), p 9 (oMv (L 0))]
 (O [m 1, m 7, q (oNilck (L 1)), q (oFaddr 4 (L 0)), q (oStore 1 (L 0) (L 2))]))
 (xExit 0))))
 (S [m 1, q (oNilck (L 0)), q (oFaddr 1 (L 0)), q (oFaddr 0 (L 0)), q (oLoad1 (L 0)), p 61 (oNe eqS (L 0) (s 0 0))]
 (C (t 61) (S [p 5 (oMv (sC (.bool false)))]
 R)
 xSkip))))
 (Q (S [p 10 (oNew (.cells 2 0 (.node (.node .nil (some (.str 0 0)) .nil) (some (.str 0 0)) .nil)))]
 (S [m 7, q (oCall 335 [(L 0)]), w 0, q (oExt (L 0) 0), q (oExt (L 1) 1), q (oStore 2 (t 10) (L 1)), p 9 (oMv (L 1))]
 (S [m 6, p 68 (oEq eqS (L 0) (s 6 118083455706476))]
 (C (t 68) (O [m 1, q (oLoadN 2 (t 10)), q (oNilck (L 1)), q (oFaddr 1 (L 0)), q (oStore 2 (L 0) (L 2))])
 (xDr [D (m 1) 2 [], D (m 1) 2 [], D (q (oNilck (L 0))) 2 [], D (q (oFaddr 3 (L 0))) 2 [], D (q (oLoad1 (L 0))) 1 [4], D (q (oLoadN 2 (t 10))) 1 [], D (q (oBuildSl 1 2 (.cons (.str 0 0) (.cons (.str 0 0) .nl)) [(0, (L 0))])) 0 [], D (q (oAppend 2 32 (L 2) (L 0))) 0 [], D (q (oNilck (L 7))) 2 [], D (q (oFaddr 3 (L 0))) 2 [], D (q (oStore 1 (L 0) (L 2))) 0 []])))))
 (xExit 0)))))
 (S [m 9, w 0, g 0 0 true (oMv (t 1)), g 0 1 true (oNilck (L 0)), g 0 2 true (oFaddr 3 (L 0)), g 0 3 true (oLoad1 (L 0)), g 0 4 true (oLenSl (L 0)), g 0 5 true (oLe 3 Z M (L 0) (i 8)), q (oPick (L 6) (L 0) (sC (.bool false))), p 5 (oMv (L 0))]
 R)))))
theorem eq_lf246 : lowAt 246 = some lf246 := by kernel_rfl
noncomputable def lf247 : LF := LF.mk [.tmp 3] (S [p 3 (oMv (sC .nils))]
 (S [m 1, m 1, q (oLenSl (L 0)), m 1, q (oLenSl (L 0)), q (oSlice 2 (L 4) none (some (L 2)) (some (L 0))), p 3 (oMv (L 0))]
 R))
theorem eq_lf247 : lowAt 247 = some lf247 := by kernel_rfl
noncomputable def lf248 : LF := LF.mk [] (S [p 7 (oMv (i 20))]
 (S [m 7, p 8 (oMv (i 0)), p 9 (oMv (L 1))]
 (Q (xBlock 0 (xLoop (Q (S [m 9, m 2, p 14 (oLe 3 Z M (L 1) (L 0))]
 (C (t 14) xSkip
 (xExit 0)))
 (xBlock 1 (S [m 1, m 8, m 9, m 3, q (oCall 336 [(L 3), (L 2), (L 1), (L 0)])]
 (S [m 9, p 8 (oMv (L 0))]
 (O [m 9, m 7, q (oAdd 3 M (L 1) (L 0)), p 9 (oMv (L 0))])))))))
 (S [m 1, m 8, m 2, m 3, q (oCall 336 [(L 3), (L 2), (L 1), (L 0)])]
 (xBlock 2 (xLoop (Q (S [m 7, m 2, p 31 (oLt 3 Z M (L 1) (L 0))]
 (C (t 31) xSkip
 (xExit 2)))
 (xBlock 3 (S [m 7, q (oMul 3 M (i 2) (L 0)), p 8 (oMv (i 0)), p 9 (oMv (L 1))]
 (Q (xBlock 4 (xLoop (Q (S [m 9, m 2, p 36 (oLe 3 Z M (L 1) (L 0))]
 (C (t 36) xSkip
 (xExit 4)))
 (xBlock 5 (S [m 1, m 8, m 8, m 7, q (oAdd 3 M (L 1) (L 0)), m 9, m 3, q (oCall 337 [(L 6), (L 5), (L 2), (L 1), (L 0)])]
 (S [m 9, p 8 (oMv (L 0))]
 (O [m 9, m 7, q (oMul 3 M (i 2) (L 0)), q (oAdd 3 M (L 2) (L 0)), p 9 (oMv (L 0))])))))))
 (Q (S [m 8, m 7, q (oAdd 3 M (L 1) (L 0)), p 10 (oMv (L 0))]
 (S [m 10, m 2, p 55 (oLt 3 Z M (L 1) (L 0))]
 (C (t 55) (O [m 1, m 8, m 10, m 2, m 3, q (oCall 337 [(L 4), (L 3), (L 2), (L 1), (L 0)])])
 xSkip)))
 (O [m 7, q (oMul 3 M (L 0) (i 2)), p 7 (oMv (L 0))]))))))))))))
theorem eq_lf248 : lowAt 248 = some lf248 := by kernel_rfl
noncomputable def lf252 : LF := LF.mk [.tmp 7] (S [p 4 (oBox (t 1)), p 5 (oBox (t 2)), p 6 (oBox (t 3)), p 7 (oMv (sC .nili))]
 (S [q (oLoad1 (t 4)), q (oLoad1 (t 5)), q (oMkFn 342 [(t 4), (t 5), (t 6)]), q (oCall 48 [(L 2), (s 4 1801807216), (L 1), (L 0)]), p 7 (oMv (L 0))]
 R))
theorem eq_lf252 : lowAt 252 = some lf252 := by kernel_rfl
noncomputable def lf255 : LF := LF.mk [.tmp 5, .tmp 6] (S [p 5 (oMv (i 0)), p 6 (oMv (sC (.bool false)))]
 (Q (S [m 1, q (oLt 3 Z M (L 0) (i 128)), w 0, g 0 0 false (oMv (t 1)), g 0 1 false (oLt 3 Z M (i 2048) (L 0)), q (oPick (L 2) (sC (.bool true)) (L 0)), w 0, g 0 0 false (oMv (t 2)), g 0 1 false (oLt 3 Z M (L 0) (i 8)), q (oPick (L 2) (sC (.bool true)) (L 0)), w 0, g 0 0 false (oMv (t 2)), g 0 1 false (oLt 3 Z M (i 200) (L 0)), p 20 (oPick (L 2) (sC (.bool true)) (L 0))]
 (C (t 20) (S [p 5 (oMv (i 0)), p 6 (oMv (sC (.bool false)))]
 R)
 xSkip))
 (S [m 1, q (oSub 3 M (L 0) (i 96)), m 2, q (oSub 3 M (L 1) (L 0)), m 1, q (oCall 280 [(L 0), (i 1024)]), q (oSub 3 M (L 2) (L 0)), p 5 (oMv (L 0))]
 (Q (S [m 5, p 29 (oLt 3 Z M (L 0) (i 8))]
 (C (t 29) (S [p 5 (oMv (i 0)), p 6 (oMv (sC (.bool false)))]
 R)
 xSkip))
 (S [m 5, p 5 (oMv (L 0)), p 6 (oMv (sC (.bool true)))]
 R)))))
theorem eq_lf255 : lowAt 255 = some lf255 := by kernel_rfl
noncomputable def lf256 : LF := LF.mk [.tmp 3] (S [p 3 (oMv (i 0))]
 (S [m 1, q (oNilck (L 0)), q (oFaddr 0 (L 0)), q (oLoad1 (L 0)), q (oLenSl (L 0)), p 3 (oMv (L 0))]
 R))
theorem eq_lf256 : lowAt 256 = some lf256 := by kernel_rfl
noncomputable def lf257 : LF := LF.mk [.tmp 5] (S [p 5 (oMv (sC .nili))]
 (S [m 1, q (oCall 256 [(L 0)]), m 2, q (oCall 255 [(L 1), (L 0)]), w 0, q (oExt (L 0) 0), q (oExt (L 1) 1), p 6 (oMv (L 1)), w 1]
 (Q (S [m 1, q (oCall 256 [(L 0)]), m 6, p 20 (oSub 3 M (L 1) (L 0)), p 21 (oMv (i 0))]
 (xBlock 0 (xLoop (S [p 22 (oLt 3 Z M (t 21) (t 20))]
 (Q (C (t 22) xSkip
 (xExit 0))
 (Q (xBlock 1 (S [m 21, p 8 (oMv (L 0))]
 (S [m 1, m 8, q (oMkBs (i 128) (i 128)), q (oCall 259 [(L 2), (L 1), (L 0)]), p 9 (oMv (L 0))]
 (S [m 9, p 29 (oNeN (L 0))]
 (C (t 29) (S [m 9, p 5 (oMv (L 0))]
 R)
 xSkip)))))
 (O [q (oAdd 3 M (t 21) (i 1)), p 21 (oMv (L 0))])))))))
 (S [p 5 (oMv (sC .nili))]
 R))))
theorem eq_lf257 : lowAt 257 = some lf257 := by kernel_rfl
noncomputable def lf258 : LF := LF.mk [.tmp 7, .tmp 8] (S [p 7 (oMv (sC .nilp)), p 8 (oMv (sC .nili))]
 (S [m 1, q (oCall 256 [(L 0)]), m 2, q (oCall 255 [(L 1), (L 0)]), w 0, q (oExt (L 0) 0), q (oExt (L 1) 1), p 9 (oMv (L 1)), p 10 (oMv (L 1))]
 (Q (S [m 10, q (oNot (L 0)), w 0, g 0 0 false (oMv (t 3)), g 0 1 false (oLt 3 Z M (L 0) (i 0)), q (oPick (L 2) (sC (.bool true)) (L 0)), w 0, g 0 0 false (oMv (t 3)), g 0 1 false (oMv (t 9)), g 0 2 false (oSub 3 M (L 0) (i 8)), g 0 3 false (oMin 3 Z M (i 64) (L 0)), g 0 4 false (oLt 3 Z M (L 0) (L 3)), p 36 (oPick (L 5) (sC (.bool true)) (L 0))]
 (C (t 36) (S [q (oMkIf 84 (i 1)), p 7 (oMv (sC .nilp)), p 8 (oMv (L 1))]
 R)
 xSkip))
 (S [m 1, q (oCall 344 [(L 0), (i 1), (i 87)]), w 0, q (oExt (L 0) 0), q (oExt (L 1) 1), p 11 (oMv (L 1)), p 12 (oMv (L 1))]
 (Q (S [m 12, p 44 (oNeN (L 0))]
 (C (t 44) (S [m 12, p 7 (oMv (sC .nilp)), p 8 (oMv (L 1))]
 R)
 xSkip))
 (S [m 11, m 1, q (oCall 256 [(L 0)]), q (oCall 345 [(L 2), (L 0)]), w 0, q (oExt (L 0) 0), q (oExt (L 1) 1), p 13 (oMv (L 1)), p 12 (oMv (L 1))]
 (Q (S [m 12, p 54 (oNeN (L 0))]
 (C (t 54) (S [m 12, p 7 (oMv (sC .nilp)), p 8 (oMv (L 1))]
 R)
 xSkip))
 (S [m 1, q (oCall 256 [(L 0)]), m 9, q (oSub 3 M (L 1) (L 0)), m 2, q (oSub 3 M (L 1) (L 0)), p 14 (oMv (L 0))]
 (S [m 13, m 1, q (oCall 256 [(L 0)]), m 9, q (oSub 3 M (L 1) (L 0)), m 9, q (oCall 346 [(L 5), (i 96), (L 1), (L 0)]), w 0, q (oExt (L 0) 0), q (oExt (L 1) 1), p 15 (oMv (L 1)), p 12 (oMv (L 1))]
 (Q (S [m 12, p 73 (oNeN (L 0))]
 (C (t 73) (S [m 12, p 7 (oMv (sC .nilp)), p 8 (oMv (L 1))]
 R)
 xSkip))
 (S [m 13, m 15, m 14, m 2, q (oCall 347 [(L 3), (L 2), (L 1), (L 0)]), w 0, q (oExt (L 0) 0), q (oExt (L 1) 1), p 16 (oMv (L 1)), p 12 (oMv (L 1))]
 (Q (S [m 12, p 84 (oNeN (L 0))]
 (C (t 84) (S [m 12, p 7 (oMv (sC .nilp)), p 8 (oMv (L 1))]
 R)
 xSkip))
 (S [m 13, m 15, m 16, m 2, m 3, m 9, q (oMkMap), q (oBuild (.cons .nilp (.cons .nilp (.cons .nilp (.cons (.int 3 0) (.cons (.int 3 0) (.cons (.int 3 0) (.cons .nilm .nl))))))) [(0, 1, (L 6)), (1, 1, (L 5)), (2, 1, (L 4)), (3, 1, (L 3)), (4, 1, (L 2)), (5, 1, (L 1)), (6, 1, (L 0))]), q (oBox (L 0)), p 7 (oMv (L 0)), p 8 (oMv (sC .nili))]
 R)))))))))))))
theorem eq_lf258 : lowAt 258 = some lf258 := by kernel_rfl
noncomputable def lf259 : LF := LF.mk [.tmp 7] (S [p 7 (oMv (sC .nili))]
 (Q (S [m 1, m 2, m 3, q (oLenSl (L 0)), q (oEq (eqI 3) (L 0) (i 128)), q (oCall 348 [(L 4), (L 3), (L 0)]), p 8 (oMv (L 0))]
 (S [m 8, p 16 (oNeN (L 0))]
 (C (t 16) (S [m 8, p 7 (oMv (L 0))]
 R)
 xSkip)))
 (Q (xDr [D (m 1) 2 [], D (q (oNilck (L 0))) 2 [], D (q (oFaddr 0 (L 0))) 2 [], D (q (oLoad1 (L 0))) 1 [3, 1], D (m 2) 2 [], D (m 3) 2 [], D (q (oCall 297 [(L 0)])) 0 [], D (q (oCall 296 [(L 0)])) 0 [], D (q (oIaddr 1 (L 4) (L 3))) 2 [], D (q (oStore 1 (L 0) (L 1))) 0 []])
 (S [m 1, q (oNilck (L 0)), q (oFaddr 1 (L 0)), q (oLoad1 (L 0)), q (oAdd 3 M (L 0) (i 1)), q (oNilck (L 4)), q (oFaddr 1 (L 0)), q (oStore 1 (L 0) (L 2))]
 (Q (S [m 1, q (oNilck (L 0)), q (oFaddr 2 (L 0)), q (oLoad1 (L 0)), p 38 (oLt 3 Z M (i 0) (L 0))]
 (C (t 38) (S [m 1, q (oNilck (L 0)), q (oFaddr 2 (L 0)), q (oLoad1 (L 0)), q (oSub 3 M (L 0) (i 1)), q (oNilck (L 4)), q (oFaddr 2 (L 0)), q (oStore 1 (L 0) (L 2))]
 (O [m 1, m 1, q (oNilck (L 0)), q (oFaddr 2 (L 0)), q (oLoad1 (L 0)), q (oEq (eqI 3) (L 0) (i 0)), q (oNilck (L 5)), q (oFaddr 3 (L 0)), q (oStore 1 (L 0) (L 2))]))
 xSkip))
 (S [p 7 (oMv (sC .nili))]
 R))))))
theorem eq_lf259 : lowAt 259 = some lf259 := by kernel_rfl
noncomputable def lf260 : LF := LF.mk [.tmp 5] (S [p 5 (oMv (sC .nils))]
 (S [q (oMkBs (i 128) (i 128)), p 6 (oMv (L 0))]
 (S [m 6, q (oCopy 1 (L 0) (s 13 7878991955647314057634658805093)), p 7 (oMv (L 0))]
 (S [m 6, m 7, m 6, m 7, q (oAdd 3 M (L 0) (i 1)), m 1, q (oToInt 4 256 (L 0)), m 2, q (oToInt 4 256 (L 0)), q (oIaddr 1 (L 8) (L 7)), q (oStore 1 (L 0) (L 3)), q (oIaddr 1 (L 8) (L 6)), q (oStore 1 (L 0) (L 3))]
 (Q (xDr [D (m 6) 2 [], D (m 7) 2 [], D (q (oAdd 3 M (L 0) (i 2))) 2 [], D (q (oSlice 1 (L 2) (some (L 0)) none none)) 1 [2, 1], D (m 6) 2 [], D (m 7) 2 [], D (q (oAdd 3 M (L 0) (i 2))) 2 [], D (q (oSlice 1 (L 2) none (some (L 0)) none)) 1 [], D (q (oCall 174 [(L 0)])) 0 [], D (q (oCall 173 [(L 0)])) 0 [], D (q (oCopy 1 (L 6) (L 0))) 0 []])
 (S [m 6, p 5 (oMv (L 0))]
 R))))))
theorem eq_lf260 : lowAt 260 = some lf260 := by kernel_rfl
noncomputable def lf261 : LF := LF.mk [.tmp 3] (S [p 3 (oMv (sC (.bool false)))]
 (Q (S [m 1, q (oLenS (L 0)), q (oLt 3 Z M (L 0) (i 1)), w 0, g 0 0 false (oMv (t 1)), g 0 1 false (oLenS (L 0)), g 0 2 false (oLt 3 Z M (i 27) (L 0)), q (oPick (L 3) (sC (.bool true)) (L 0)), w 0, g 0 0 false (oMv (t 1)), g 0 1 false (oEq eqS (L 0) (s 1 46)), q (oPick (L 2) (sC (.bool true)) (L 0)), w 0, g 0 0 false (oMv (t 1)), g 0 1 false (oEq eqS (L 0) (s 2 11822)), p 21 (oPick (L 2) (sC (.bool true)) (L 0))]
 (C (t 21) (S [p 3 (oMv (sC (.bool false)))]
 R)
 xSkip))
 (Q (S [p 4 (oMv (i 0))]
 (xBlock 0 (xLoop (Q (S [m 4, m 1, q (oLenS (L 0)), p 25 (oLt 3 Z M (L 2) (L 0))]
 (C (t 25) xSkip
 (xExit 0)))
 (Q (xBlock 1 (S [m 1, m 4, q (oIdxS (L 1) (L 0)), p 5 (oMv (L 0))]
 (S [m 5, q (oCall 349 [(L 0)]), q (oNot (L 0)), w 0, g 0 0 true (oMv (t 5)), g 0 1 true (oNe (eqI 4) (L 0) (sC (.int 4 46))), q (oPick (L 2) (L 0) (sC (.bool false))), w 0, g 0 0 true (oMv (t 5)), g 0 1 true (oNe (eqI 4) (L 0) (sC (.int 4 43))), q (oPick (L 2) (L 0) (sC (.bool false))), w 0, g 0 0 true (oMv (t 5)), g 0 1 true (oNe (eqI 4) (L 0) (sC (.int 4 45))), q (oPick (L 2) (L 0) (sC (.bool false))), w 0, g 0 0 true (oMv (t 5)), g 0 1 true (oNe (eqI 4) (L 0) (sC (.int 4 95))), q (oPick (L 2) (L 0) (sC (.bool false))), w 0, g 0 0 true (oMv (t 5)), g 0 1 true (oNe (eqI 4) (L 0) (sC (.int 4 126))), p 53 (oPick (L 2) (L 0) (sC (.bool false)))]
 (C (t 53) (S [p 3 (oMv (sC (.bool false)))]
 R)
 xSkip))))
 (O [m 4, q (oAdd 3 M (L 0) (i 1)), p 4 (oMv (L 0))]))))))
 (S [p 3 (oMv (sC (.bool true)))]
 R))))
theorem eq_lf261 : lowAt 261 = some lf261 := by kernel_rfl
noncomputable def lf262 : LF := LF.mk [.tmp 3, .tmp 4, .tmp 5] (S [p 3 (oMv (s 0 0)), p 4 (oMv (s 0 0)), p 5 (oMv (sC (.bool false)))]
 (S [m 1, q (oCall 164 [(L 0)]), w 0, q (oExt (L 0) 0), q (oExt (L 1) 1), p 6 (oMv (L 1)), p 7 (oMv (L 1))]
 (Q (S [m 7, q (oNot (L 0)), w 0, g 0 0 false (oMv (t 6)), g 0 1 false (oLenSl (L 0)), g 0 2 false (oEq (eqI 3) (L 0) (i 0)), p 21 (oPick (L 3) (sC (.bool true)) (L 0))]
 (C (t 21) (S [p 3 (oMv (s 0 0)), p 4 (oMv (s 0 0)), p 5 (oMv (sC (.bool false)))]
 R)
 xSkip))
 (S [m 6, m 6, q (oLenSl (L 0)), q (oSub 3 M (L 0) (i 1)), q (oSlice 1 (L 3) none (some (L 0)) none), q (oCall 350 [(L 0)]), w 0, q (oExt (L 0) 0), q (oExt (L 1) 1), p 8 (oMv (L 1)), w 1]
 (Q (xDr [D (m 8) 2 [], D (m 6) 2 [], D (m 6) 2 [], D (q (oLenSl (L 0))) 2 [], D (q (oSub 3 M (L 0) (i 1))) 2 [], D (q (oIaddr 1 (L 3) (L 0))) 2 [], D (q (oLoad1 (L 0))) 1 [], D (p 3 (oMv (L 6))) 2 [], D (p 4 (oMv (L 1))) 2 [], D (p 5 (oMv (sC (.bool true)))) 2 []])
 R)))))
theorem eq_lf262 : lowAt 262 = some lf262 := by kernel_rfl
noncomputable def lf263 : LF := LF.mk [.tmp 5, .tmp 6] (S [p 5 (oMv (i 0)), p 6 (oMv (i 0))]
 (S [m 2, q (oCall 164 [(L 0)]), w 0, q (oExt (L 0) 0), q (oExt (L 1) 1), p 7 (oMv (L 1)), p 8 (oMv (L 1))]
 (Q (S [m 8, p 19 (oNot (L 0))]
 (C (t 19) (S [p 5 (oMv (i 18446744073709551615)), p 6 (oMv (i 10))]
 R)
 xSkip))
 (S [m 1, q (oCall 166 [(L 0), (s 1 47)]), p 9 (oMv (L 0))]
 (Q (S [p 10 (oMv (i 1))]
 (xBlock 0 (xLoop (Q (S [m 10, m 7, q (oLenSl (L 0)), p 25 (oLe 3 Z M (L 2) (L 0))]
 (C (t 25) xSkip
 (xExit 0)))
 (Q (xBlock 1 (Q (S [m 1, q (oNilck (L 0)), q (oFaddr 3 (L 0)), q (oLoad1 (L 0)), m 9, q (oIaddr 5 (L 1) (L 0)), q (oFaddr 1 (L 0)), q (oLoad1 (L 0)), p 36 (oNot (L 0))]
 (C (t 36) (S [p 5 (oMv (i 18446744073709551615)), p 6 (oMv (i 14))]
 R)
 xSkip))
 (S [m 7, m 10, q (oSlice 1 (L 1) none (some (L 0)) none), q (oCall 350 [(L 0)]), w 0, q (oExt (L 0) 0), q (oExt (L 1) 1), p 11 (oMv (L 1)), w 1]
 (S [m 1, m 11, q (oCall 166 [(L 1), (L 0)]), p 9 (oMv (L 0))]
 (S [m 9, p 48 (oLt 3 Z M (L 0) (i 0))]
 (C (t 48) (S [p 5 (oMv (i 18446744073709551615)), p 6 (oMv (i 11))]
 R)
 xSkip))))))
 (O [m 10, q (oAdd 3 M (L 0) (i 1)), p 10 (oMv (L 0))]))))))
 (S [m 9, p 5 (oMv (L 0)), p 6 (oMv (i 0))]
 R))))))
theorem eq_lf263 : lowAt 263 = some lf263 := by kernel_rfl
noncomputable def lf264 : LF := LF.mk [.tmp 3] (S [p 3 (oMv (i 0))]
 (S [p 4 (oMv (i 0))]
 (Q (S [p 5 (oMv (i 0))]
 (xBlock 0 (xLoop (Q (S [m 5, m 1, q (oNilck (L 0)), q (oFaddr 3 (L 0)), q (oLoad1 (L 0)), q (oLenSl (L 0)), p 12 (oLt 3 Z M (L 5) (L 0))]
 (C (t 12) xSkip
 (xExit 0)))
 (Q (xBlock 1 (S [m 1, q (oNilck (L 0)), q (oFaddr 3 (L 0)), q (oLoad1 (L 0)), m 5, q (oIaddr 5 (L 1) (L 0)), q (oFaddr 1 (L 0)), p 22 (oLoad1 (L 0))]
 (C (t 22) (O [m 4, m 1, m 1, q (oNilck (L 0)), q (oFaddr 3 (L 0)), q (oLoad1 (L 0)), m 5, q (oIaddr 5 (L 1) (L 0)), q (oFaddr 0 (L 0)), q (oLoad1 (L 0)), q (oCall 167 [(L 8), (L 0)]), q (oLenSl (L 0)), q (oCall 351 [(L 0)]), q (oAdd 3 M (L 12) (L 0)), p 4 (oMv (L 0))])
 (O [m 4, m 1, q (oNilck (L 0)), q (oFaddr 3 (L 0)), q (oLoad1 (L 0)), m 5, q (oIaddr 5 (L 1) (L 0)), q (oFaddr 2 (L 0)), q (oLoad1 (L 0)), q (oLenS (L 0)), q (oCall 352 [(L 0)]), q (oAdd 3 M (L 10) (L 0)), p 4 (oMv (L 0))]))))
 (O [m 5, q (oAdd 3 M (L 0) (i 1)), p 5 (oMv (L 0))]))))))
 (S [m 4, p 3 (oMv (L 0))]
 R))))
theorem eq_lf264 : lowAt 264 = some lf264 := by kernel_rfl
noncomputable def lf265 : LF := LF.mk [.tmp 5] (S [p 5 (oMv (i 0))]
 (S [m 2, q (oCall 352 [(L 0)]), m 1, q (oCall 352 [(L 0)]), q (oSub 3 M (L 2) (L 0)), q (oMax 3 Z M (L 0) (i 0)), p 5 (oMv (L 0))]
 R))
theorem eq_lf265 : lowAt 265 = some lf265 := by kernel_rfl
noncomputable def lf266 : LF := LF.mk [.tmp 3] (S [p 3 (oMv (sC (.bool false)))]
 (Q (xBlock 0 (Q (xBlock 3 (Q (xBlock 2 (Q (xBlock 1 (Q (Q (S [m 1, q (oLe 4 0 256 (sC (.int 4 65)) (L 0)), w 0, g 0 0 true (oMv (t 1)), g 0 1 true (oLe 4 0 256 (L 0) (sC (.int 4 90))), q (oPick (L 2) (L 0) (sC (.bool false))), p 4 (oMv (L 0))]
 (C (t 4) (xExit 1)
 xSkip))
 (Q (S [m 1, q (oLe 4 0 256 (sC (.int 4 97)) (L 0)), w 0, g 0 0 true (oMv (t 1)), g 0 1 true (oLe 4 0 256 (L 0) (sC (.int 4 122))), q (oPick (L 2) (L 0) (sC (.bool false))), p 11 (oMv (L 0))]
 (C (t 11) (xExit 2)
 xSkip))
 (S [m 1, q (oLe 4 0 256 (sC (.int 4 48)) (L 0)), w 0, g 0 0 true (oMv (t 1)), g 0 1 true (oLe 4 0 256 (L 0) (sC (.int 4 57))), q (oPick (L 2) (L 0) (sC (.bool false))), p 18 (oMv (L 0))]
 (C (t 18) (xExit 3)
 xSkip))))
 (xExit 0)))
 (O [m 1, q (oAdd 4 256 (L 0) (sC (.int 4 32))), p 1 (oMv (L 0))])))
 (Q (S [p 3 (oMv (sC (.bool true)))]
 R)
 (xExit 0))))
 (Q (S [p 3 (oMv (sC (.bool true)))]
 R)
 (xExit 0))))
 (S [m 1, q (oCall 353 [(s 5 198292889470), (L 0)]), q (oLe 3 Z M (i 0) (L 0)), p 3 (oMv (L 0))]
 R)))
theorem eq_lf266 : lowAt 266 = some lf266 := by kernel_rfl
noncomputable def lf267 : LF := LF.mk [.tmp 5] (S [p 5 (oMv (s 0 0))]
 (S [m 1, m 2, q (oCall 354 [(L 1), (L 0)]), p 5 (oMv (L 0))]
 R))
theorem eq_lf267 : lowAt 267 = some lf267 := by kernel_rfl
noncomputable def lf268 : LF := LF.mk [.tmp 5] (S [p 5 (oMv (s 0 0))]
 (Q (S [p 12 (oMv (t 2))]
 (xBlock 0 (S [q (oEq (eqI 3) (t 12) (i 0)), p 13 (oMv (L 0))]
 (C (t 13) (S [p 5 (oMv (s 0 0))]
 R)
 (S [q (oEq (eqI 3) (t 12) (i 1)), p 15 (oMv (L 0))]
 (C (t 15) (S [m 1, p 5 (oMv (L 0))]
 R)
 xSkip))))))
 (Q (S [m 2, p 19 (oLt 3 Z M (L 0) (i 0))]
 (C (t 19) (O [q (oMkIf 9 (s 30 796840232667461706678579719944341861482409122585624986329502410614337140)), q (oBad)])
 xSkip))
 (S [m 1, q (oLenS (L 0)), q (oToInt 7 M (L 0)), m 2, q (oToInt 7 M (L 0)), q (oCall 355 [(L 2), (L 0)]), w 0, q (oExt (L 0) 0), q (oExt (L 1) 1), p 6 (oMv (L 1)), p 7 (oMv (L 1))]
 (Q (S [m 6, q (oLt 7 0 M (sC (.int 7 0)) (L 0)), w 0, g 0 0 false (oMv (t 7)), g 0 1 false (oLt 7 0 M (sC (.int 7 9223372036854775807)) (L 0)), p 35 (oPick (L 2) (sC (.bool true)) (L 0))]
 (C (t 35) (O [q (oMkIf 9 (s 38 14699107839651839492409813534735206140846196732707160459574923228480338921002494104695500663)), q (oBad)])
 xSkip))
 (S [m 7, q (oToInt 3 M (L 0)), p 8 (oMv (L 0))]
 (Q (S [m 1, q (oLenS (L 0)), p 41 (oEq (eqI 3) (L 0) (i 0))]
 (C (t 41) (S [p 5 (oMv (s 0 0))]
 R)
 xSkip))
 (Q (S [m 1, p 43 (oIdxS (L 0) (i 0))]
 (xBlock 1 (Q (S [q (oEq (eqI 4) (t 43) (sC (.int 4 32))), p 44 (oMv (L 0))]
 (C (t 44) xSkip
 (S [q (oEq (eqI 4) (t 43) (sC (.int 4 45))), p 44 (oMv (L 0))]
 (C (t 44) xSkip
 (S [q (oEq (eqI 4) (t 43) (sC (.int 4 48))), p 44 (oMv (L 0))]
 (C (t 44) xSkip
 (S [q (oEq (eqI 4) (t 43) (sC (.int 4 61))), p 44 (oMv (L 0))]
 (C (t 44) xSkip
 (O [q (oEq (eqI 4) (t 43) (sC (.int 4 9))), p 44 (oMv (L 0))])))))))))
 (C (t 44) (xBlock 2 (S [m 8, q (oLe 3 Z M (L 0) (i 128)), w 0, g 0 0 true (oMv (t 1)), g 0 1 true (oCall 214 [(s 128 22559286398272199626406967100097565284617750323981886402940245478617433826572669883320279507125651579120955467277978774294436363145338556548122030511620282274857147410179198152320278538195588281656857468496941900403218909156701224341824390342378319957753789576104947230111026941299415379430319225678334009376), (L 0)]), q (oPick (L 2) (L 0) (sC (.bool false))), p 50 (oMv (L 0))]
 (C (t 50) (S [m 8, q (oSliceS (s 128 22559286398272199626406967100097565284617750323981886402940245478617433826572669883320279507125651579120955467277978774294436363145338556548122030511620282274857147410179198152320278538195588281656857468496941900403218909156701224341824390342378319957753789576104947230111026941299415379430319225678334009376) none (some (L 0))), p 5 (oMv (L 0))]
 R)
 (S [m 8, q (oLe 3 Z M (L 0) (i 128)), w 0, g 0 0 true (oMv (t 1)), g 0 1 true (oCall 214 [(s 128 31723996497570280724634797484512201181493711393099527754134720204305766318617817023419143056895447533138843625859657651351551135673132345145796605406966021949017863545564497401700391694337546021079955815073824547442026591001611096730690548918969512440591266591397582042343631636202302877323886411110157200685), (L 0)]), q (oPick (L 2) (L 0) (sC (.bool false))), p 59 (oMv (L 0))]
 (C (t 59) (S [m 8, q (oSliceS (s 128 31723996497570280724634797484512201181493711393099527754134720204305766318617817023419143056895447533138843625859657651351551135673132345145796605406966021949017863545564497401700391694337546021079955815073824547442026591001611096730690548918969512440591266591397582042343631636202302877323886411110157200685) none (some (L 0))), p 5 (oMv (L 0))]
 R)
 (S [m 8, q (oLe 3 Z M (L 0) (i 64)), w 0, g 0 0 true (oMv (t 1)), g 0 1 true (oCall 214 [(s 64 2523822669165665336390404705544629859290233566229156400512670389406449699778550019162705750243181821682829526246867962513647789705778177872269863342321712), (L 0)]), q (oPick (L 2) (L 0) (sC (.bool false))), p 68 (oMv (L 0))]
 (C (t 68) (S [m 8, q (oSliceS (s 64 2523822669165665336390404705544629859290233566229156400512670389406449699778550019162705750243181821682829526246867962513647789705778177872269863342321712) none (some (L 0))), p 5 (oMv (L 0))]
 R)
 (S [m 8, q (oLe 3 Z M (L 0) (i 128)), w 0, g 0 0 true (oMv (t 1)), g 0 1 true (oCall 214 [(s 128 43003639696706380537838281034560983823802586555090470955604842943614483231904151965079282810458273322699321359498647038498769317245801623419857620662776163086446437250654096477860530963435340161908384549322295497643636045579961708901602744090158672419468161379450055657399145106852010567039046023949324205373), (L 0)]), q (oPick (L 2) (L 0) (sC (.bool false))), p 77 (oMv (L 0))]
 (C (t 77) (S [m 8, q (oSliceS (s 128 43003639696706380537838281034560983823802586555090470955604842943614483231904151965079282810458273322699321359498647038498769317245801623419857620662776163086446437250654096477860530963435340161908384549322295497643636045579961708901602744090158672419468161379450055657399145106852010567039046023949324205373) none (some (L 0))), p 5 (oMv (L 0))]
 R)
 (S [m 8, q (oLe 3 Z M (L 0) (i 64)), w 0, g 0 0 true (oMv (t 1)), g 0 1 true (oCall 214 [(s 64 473216750468562250573200882289618098616918793667966825096125698013709318708478128593007328170596591565530536171287742971308960569833408351050599376685321), (L 0)]), q (oPick (L 2) (L 0) (sC (.bool false))), p 86 (oMv (L 0))]
 (C (t 86) (S [m 8, q (oSliceS (s 64 473216750468562250573200882289618098616918793667966825096125698013709318708478128593007328170596591565530536171287742971308960569833408351050599376685321) none (some (L 0))), p 5 (oMv (L 0))]
 R)
 xSkip)))))))))))
 xSkip))))
 (S [m 8, p 9 (oMv (L 0))]
 (Q (S [m 8, p 97 (oLt 3 Z M (i 8192) (L 0))]
 (C (t 97) (S [m 1, q (oLenS (L 0)), q (oQuo 3 Z (i 8192) (L 0)), m 1, q (oLenS (L 0)), q (oMul 3 M (L 2) (L 0)), p 9 (oMv (L 0))]
 (S [m 9, p 105 (oEq (eqI 3) (L 0) (i 0))]
 (C (t 105) (O [m 1, q (oLenS (L 0)), p 9 (oMv (L 0))])
 xSkip)))
 xSkip))
 (S [p 10 (oNew (.var 267 2 (.node (.node .nil (some .nils) .nil) (some .nilp) .nil)))]
 (S [m 8, q (oCall 333 [(t 10), (L 0)])]
 (S [m 1, q (oCall 184 [(t 10), (L 0)])]
 (Q (xBlock 3 (xLoop (Q (S [q (oCall 356 [(t 10)]), m 8, p 114 (oLt 3 Z M (L 1) (L 0))]
 (C (t 114) xSkip
 (xExit 3)))
 (xBlock 4 (S [m 8, q (oCall 356 [(t 10)]), q (oSub 3 M (L 1) (L 0)), q (oCall 356 [(t 10)]), m 9, q (oBad), p 11 (oMv (L 0))]
 (O [q (oCall 185 [(t 10)]), m 11, q (oSliceS (L 1) none (some (L 0))), q (oCall 184 [(t 10), (L 0)])]))))))
 (S [q (oCall 185 [(t 10)]), p 5 (oMv (L 0))]
 R)))))))))))))))
theorem eq_lf268 : lowAt 268 = some lf268 := by kernel_rfl
noncomputable def lf269 : LF := LF.mk [.tmp 3] (S [p 3 (oMv (sC (.int 7 0)))]
 (S [p 4 (oMv (sC (.int 7 14695981039346656037)))]
 (Q (S [p 9 (oMv (t 1)), p 10 (oLenSl (L 0)), p 11 (oMv (i 0))]
 (xBlock 0 (xLoop (S [p 12 (oLt 3 Z M (t 11) (t 10))]
 (Q (C (t 12) xSkip
 (xExit 0))
 (Q (xBlock 1 (S [q (oIaddr 1 (t 9) (t 11)), q (oLoad1 (L 0)), p 6 (oMv (L 0))]
 (S [p 15 (oMv (t 6)), p 16 (oLenSl (L 0)), p 17 (oMv (i 0))]
 (xBlock 2 (xLoop (S [p 18 (oLt 3 Z M (t 17) (t 16))]
 (Q (C (t 18) xSkip
 (xExit 2))
 (Q (xBlock 3 (S [q (oIaddr 1 (t 15) (t 17)), q (oLoad1 (L 0)), p 8 (oMv (L 0))]
 (O [m 4, m 8, q (oToInt 7 M (L 0)), q (oXor 7 (L 2) (L 0)), q (oMul 7 M (L 0) (sC (.int 7 1099511628211))), p 4 (oMv (L 0))])))
 (O [q (oAdd 3 M (t 17) (i 1)), p 17 (oMv (L 0))])))))))))
 (O [q (oAdd 3 M (t 11) (i 1)), p 11 (oMv (L 0))])))))))
 (S [m 4, p 3 (oMv (L 0))]
 R))))
theorem eq_lf269 : lowAt 269 = some lf269 := by kernel_rfl
noncomputable def lf270 : LF := LF.mk [.tmp 5] (S [p 5 (oMv (s 0 0))]
 (Q (S [m 2, p 12 (oEq (eqI 3) (L 0) (i 10))]
 (C (t 12) (Q (S [m 1, q (oLe 3 Z M (i 0) (L 0)), w 0, g 0 0 true (oMv (t 1)), g 0 1 true (oLt 3 Z M (L 0) (i 100)), p 18 (oPick (L 2) (L 0) (sC (.bool false)))]
 (C (t 18) (S [m 1, q (oCall 357 [(L 0)]), p 5 (oMv (L 0))]
 R)
 xSkip))
 (S [p 6 (oNew (.bytes 24 0))]
 (S [m 1, q (oToInt 7 M (L 0)), p 7 (oMv (L 0))]
 (Q (S [m 1, p 24 (oLt 3 Z M (L 0) (i 0))]
 (C (t 24) (O [m 7, q (oNeg 7 M (L 0)), p 7 (oMv (L 0))])
 xSkip))
 (S [m 7, q (oCall 358 [(L 0)]), p 8 (oMv (L 0))]
 (S [m 8, q (oAdd 3 M (i 1) (L 0)), q (oSliceA 24 1 (t 6) (some (i 1)) (some (L 0)) none), m 7, q (oCall 359 [(L 1), (L 0)])]
 (Q (S [m 1, p 35 (oLt 3 Z M (L 0) (i 0))]
 (C (t 35) (S [q (oIaddrA 24 1 (t 6) (i 0)), q (oStore 1 (L 0) (sC (.int 4 45)))]
 (S [m 8, q (oAdd 3 M (i 1) (L 0)), q (oSliceA 24 1 (t 6) none (some (L 0)) none), q (oBsToStr (L 0)), p 5 (oMv (L 0))]
 R))
 xSkip))
 (S [m 8, q (oAdd 3 M (i 1) (L 0)), q (oSliceA 24 1 (t 6) (some (i 1)) (some (L 0)) none), q (oBsToStr (L 0)), p 5 (oMv (L 0))]
 R))))))))
 xSkip))
 (S [m 1, q (oToInt 7 M (L 0)), m 2, m 1, q (oLt 3 Z M (L 0) (i 0)), q (oCall 360 [(sC .nils), (L 3), (L 2), (L 0), (sC (.bool false))]), w 0, q (oExt (L 0) 0), q (oExt (L 1) 1), w 1, p 10 (oMv (L 1))]
 (S [m 10, p 5 (oMv (L 0))]
 R))))
theorem eq_lf270 : lowAt 270 = some lf270 := by kernel_rfl
noncomputable def lf278 : LF := LF.mk [.tmp 5] (S [p 5 (oMv (sC .nils))]
 (Q (S [m 2, p 7 (oLt 3 Z M (L 0) (i 0))]
 (C (t 7) (O [q (oMkIf 9 (s 18 8657270485328334183878363895755874379593317)), q (oBad)])
 xSkip))
 (Q (S [m 2, m 1, q (oCap (L 0)), m 1, q (oLenSl (L 0)), q (oSub 3 M (L 2) (L 0)), q (oSub 3 M (L 5) (L 0)), p 2 (oMv (L 0))]
 (S [m 2, p 17 (oLt 3 Z M (i 0) (L 0))]
 (C (t 17) (O [m 1, m 1, q (oCap (L 0)), q (oSlice 2 (L 2) none (some (L 0)) none), m 2, q (oAppendZ 2 32 false (.cons (.str 0 0) (.cons (.str 0 0) .nl)) (L 1) (L 0)), m 1, q (oLenSl (L 0)), q (oSlice 2 (L 2) none (some (L 0)) none), p 1 (oMv (L 0))])
 xSkip)))
 (S [m 1, p 5 (oMv (L 0))]
 R))))
theorem eq_lf278 : lowAt 278 = some lf278 := by kernel_rfl
noncomputable def lf279 : LF := LF.mk [.tmp 3, .tmp 4] (S [p 3 (oMv (sC (.int 7 0))), p 4 (oMv (sC (.bool false)))]
 (Q (xBlock 0 (Q (xBlock 2 (Q (xBlock 1 (Q (Q (S [m 1, q (oLe 4 0 256 (sC (.int 4 97)) (L 0)), w 0, g 0 0 true (oMv (t 1)), g 0 1 true (oLe 4 0 256 (L 0) (sC (.int 4 102))), q (oPick (L 2) (L 0) (sC (.bool false))), p 5 (oMv (L 0))]
 (C (t 5) (xExit 1)
 xSkip))
 (S [m 1, q (oLe 4 0 256 (sC (.int 4 48)) (L 0)), w 0, g 0 0 true (oMv (t 1)), g 0 1 true (oLe 4 0 256 (L 0) (sC (.int 4 57))), q (oPick (L 2) (L 0) (sC (.bool false))), p 12 (oMv (L 0))]
 (C (t 12) (xExit 2)
 xSkip)))
 (xExit 0)))
 (O [m 1, q (oSub 4 256 (L 0) (sC (.int 4 97))), q (oAdd 4 256 (L 0) (sC (.int 4 10))), q (oAdd 4 256 (L 0) (sC (.int 4 48))), p 1 (oMv (L 0))])))
 (Q (S [m 1, q (oSub 4 256 (L 0) (sC (.int 4 48))), q (oToInt 7 M (L 0)), p 3 (oMv (L 0)), p 4 (oMv (sC (.bool true)))]
 R)
 (xExit 0))))
 (S [p 3 (oMv (sC (.int 7 0))), p 4 (oMv (sC (.bool false)))]
 R)))
theorem eq_lf279 : lowAt 279 = some lf279 := by kernel_rfl
noncomputable def lf280 : LF := LF.mk [.tmp 5] (S [p 5 (oMv (i 0))]
 (S [m 1, m 2, q (oAdd 3 M (L 1) (L 0)), q (oSub 3 M (L 0) (i 1)), m 2, q (oQuo 3 Z (L 1) (L 0)), p 5 (oMv (L 0))]
 R))
theorem eq_lf280 : lowAt 280 = some lf280 := by kernel_rfl
noncomputable def lf281 : LF := LF.mk [] (S [m 1, q (oNilck (L 0)), q (oFaddr 0 (L 0)), q (oLoad1 (L 0)), p 7 (oEq eqP2 (L 0) (sC .nilp))]
 (C (t 7) (O [m 1, m 1, q (oP2U (L 0)), q (oCall 365 [(L 0)]), q (oU2P 267 2 (L 0)), q (oNilck (L 4)), q (oFaddr 0 (L 0)), q (oStore 1 (L 0) (L 2))])
 (S [m 1, q (oNilck (L 0)), q (oFaddr 0 (L 0)), q (oLoad1 (L 0)), m 1, p 20 (oNe eqP2 (L 1) (L 0))]
 (C (t 20) xBad
 xSkip))))
theorem eq_lf281 : lowAt 281 = some lf281 := by kernel_rfl
noncomputable def lf282 : LF := LF.mk [.tmp 5, .tmp 6, .tmp 7] (S [p 5 (oMv (sC .nils)), p 6 (oMv (sC .nils)), p 7 (oMv (sC .nili))]
 (S [m 1, q (oCall 126 [(L 0)]), w 0, q (oExt (L 0) 0), q (oExt (L 1) 1), p 5 (oMv (L 1)), p 8 (oMv (L 1))]
 (S [m 2, q (oCall 126 [(L 0)]), w 0, q (oExt (L 0) 0), q (oExt (L 1) 1), p 6 (oMv (L 1)), p 9 (oMv (L 1))]
 (Q (xBlock 0 (S [m 8, q (oNot (L 0)), w 0, g 0 0 false (oMv (t 9)), g 0 1 false (oNot (L 0)), q (oPick (L 2) (sC (.bool true)) (L 0)), p 20 (oMv (L 0))]
 (C (t 20) (S [q (oMkIf 84 (i 10)), p 5 (oMv (sC .nils)), p 6 (oMv (sC .nils)), p 7 (oMv (L 2))]
 R)
 (S [m 5, q (oLenSl (L 0)), q (oEq (eqI 3) (L 0) (i 0)), w 0, g 0 0 false (oMv (t 6)), g 0 1 false (oLenSl (L 0)), g 0 2 false (oEq (eqI 3) (L 0) (i 0)), q (oPick (L 3) (sC (.bool true)) (L 0)), p 28 (oMv (L 0))]
 (C (t 28) (S [q (oMkIf 84 (i 1)), p 5 (oMv (sC .nils)), p 6 (oMv (sC .nils)), p 7 (oMv (L 2))]
 R)
 xSkip)))))
 (S [m 5, m 6, p 5 (oMv (L 1)), p 6 (oMv (L 1)), p 7 (oMv (sC .nili))]
 R)))))
theorem eq_lf282 : lowAt 282 = some lf282 := by kernel_rfl
noncomputable def lf283 : LF := LF.mk [.tmp 5] (S [p 5 (oMv (sC (.bool false)))]
 (S [m 1, q (oCall 126 [(L 0)]), w 0, q (oExt (L 0) 0), q (oExt (L 1) 1), p 6 (oMv (L 1)), p 7 (oMv (L 1))]
 (S [m 2, q (oCall 126 [(L 0)]), w 0, q (oExt (L 0) 0), q (oExt (L 1) 1), p 8 (oMv (L 1)), p 9 (oMv (L 1))]
 (S [m 7, w 0, g 0 0 true (oMv (t 9)), q (oPick (L 1) (L 0) (sC (.bool false))), w 0, g 0 0 true (oMv (t 6)), g 0 1 true (oLenSl (L 0)), g 0 2 true (oMv (t 8)), g 0 3 true (oLenSl (L 0)), g 0 4 true (oLe 3 Z M (L 0) (L 2)), q (oPick (L 5) (L 0) (sC (.bool false))), w 0, g 0 0 true (oMv (t 6)), g 0 1 true (oMv (t 8)), g 0 2 true (oLenSl (L 0)), g 0 3 true (oSlice 1 (L 2) none (some (L 0)) none), g 0 4 true (oMv (t 8)), g 0 5 true (oCall 366 [(L 1), (L 0)]), q (oPick (L 6) (L 0) (sC (.bool false))), p 5 (oMv (L 0))]
 R))))
theorem eq_lf283 : lowAt 283 = some lf283 := by kernel_rfl
noncomputable def lf284 : LF := LF.mk [.tmp 5, .tmp 6] (S [p 5 (oMv (i 0)), p 6 (oMv (sC .nili))]
 (S [m 2, q (oBuildSl 1 1 (.cons (.int 3 0) .nl) [(0, (L 0))]), p 7 (oMv (L 0))]
 (S [p 8 (oMv (i 18446744073709551615))]
 (Q (xBlock 0 (xLoop (Q (S [m 7, q (oLenSl (L 0)), q (oLt 3 Z M (i 0) (L 0)), w 0, g 0 0 true (oMv (t 8)), g 0 1 true (oLe 3 Z M (L 0) (i 6)), p 23 (oPick (L 2) (L 0) (sC (.bool false)))]
 (C (t 23) xSkip
 (xExit 0)))
 (xBlock 1 (S [m 8, q (oAdd 3 M (L 0) (i 1)), p 8 (oMv (L 0))]
 (S [p 9 (oMv (sC .nils))]
 (Q (S [p 26 (oMv (t 7)), p 27 (oLenSl (L 0)), p 28 (oMv (i 0))]
 (xBlock 2 (xLoop (S [p 29 (oLt 3 Z M (t 28) (t 27))]
 (Q (C (t 29) xSkip
 (xExit 2))
 (Q (xBlock 3 (S [q (oIaddr 1 (t 26) (t 28)), q (oLoad1 (L 0)), p 11 (oMv (L 0))]
 (S [m 1, q (oNilck (L 0)), q (oFaddr 2 (L 0)), q (oLoad1 (L 0)), m 11, q (oCall 128 [(L 1), (L 0)]), w 0, q (oExt (L 0) 0), q (oExt (L 1) 1), p 12 (oMv (L 1)), p 13 (oMv (L 1))]
 (Q (S [m 13, p 42 (oNeN (L 0))]
 (C (t 42) (S [m 13, p 5 (oMv (i 0)), p 6 (oMv (L 1))]
 R)
 xSkip))
 (Q (S [m 12, p 45 (oNe (eqI 3) (L 0) (i 2))]
 (C (t 45) (xExit 3)
 xSkip))
 (S [m 1, m 11, q (oCall 211 [(L 1), (L 0)]), w 0, q (oExt (L 0) 0), q (oExt (L 1) 1), p 14 (oMv (L 1)), p 13 (oMv (L 1))]
 (Q (S [m 13, p 53 (oNeN (L 0))]
 (C (t 53) (S [m 13, p 5 (oMv (i 0)), p 6 (oMv (L 1))]
 R)
 xSkip))
 (O [m 9, m 14, q (oAppend 1 8 (L 1) (L 0)), p 9 (oMv (L 0))]))))))))
 (O [q (oAdd 3 M (t 28) (i 1)), p 28 (oMv (L 0))])))))))
 (O [m 9, p 7 (oMv (L 0))]))))))))
 (S [m 8, p 5 (oMv (L 0)), p 6 (oMv (sC .nili))]
 R)))))
theorem eq_lf284 : lowAt 284 = some lf284 := by kernel_rfl
noncomputable def lf285 : LF := LF.mk [.tmp 11] (S [p 11 (oMv (sC .nili))]
 (S [m 1, m 4, q (oCall 114 [(L 1), (L 0), (i 1)]), w 0, q (oExt (L 0) 0), q (oExt (L 1) 1), q (oExt (L 2) 2), p 12 (oMv (L 2)), p 13 (oMv (L 2)), p 14 (oMv (L 2))]
 (Q (S [m 14, p 35 (oNeN (L 0))]
 (C (t 35) (S [m 14, p 11 (oMv (L 0))]
 R)
 xSkip))
 (S [m 1, m 3, q (oCall 114 [(L 1), (L 0), (i 1)]), w 0, q (oExt (L 0) 0), q (oExt (L 1) 1), q (oExt (L 2) 2), p 15 (oMv (L 2)), p 16 (oMv (L 2)), p 14 (oMv (L 2))]
 (Q (S [m 14, p 45 (oNeN (L 0))]
 (C (t 45) (S [m 14, p 11 (oMv (L 0))]
 R)
 xSkip))
 (S [m 1, m 12, m 13, m 5, q (oCall 367 [(L 3), (L 2), (L 1), (L 0)]), w 0, q (oExt (L 0) 0), q (oExt (L 1) 1), p 17 (oMv (L 1)), p 14 (oMv (L 1))]
 (Q (S [m 14, p 56 (oNeN (L 0))]
 (C (t 56) (S [m 14, p 11 (oMv (L 0))]
 R)
 xSkip))
 (S [m 3, q (oCall 113 [(L 0)]), w 0, q (oExt (L 0) 0), q (oExt (L 1) 1), q (oExt (L 2) 2), p 18 (oMv (L 2)), w 2, w 2]
 (S [m 4, q (oCall 113 [(L 0)]), w 0, q (oExt (L 0) 0), q (oExt (L 1) 1), q (oExt (L 2) 2), p 21 (oMv (L 2)), w 2, w 2]
 (Q (S [m 18, m 21, p 72 (oEq eqS (L 1) (L 0))]
 (C (t 72) (S [m 15, m 16, m 13, q (oCall 368 [(L 2), (L 1), (L 0)]), p 11 (oMv (L 0))]
 R)
 xSkip))
 (Q (S [m 17, p 78 (oNot (L 0))]
 (C (t 78) (S [m 12, q (oCall 204 [(L 0)]), w 0, q (oExt (L 0) 0), q (oExt (L 1) 1), p 24 (oMv (L 1)), p 25 (oMv (L 1))]
 (Q (S [m 25, p 85 (oEqN (L 0))]
 (C (t 85) (O [m 1, m 24, q (oCall 202 [(L 1), (L 0), (sC (.bool false))]), p 25 (oMv (L 0))])
 xSkip))
 (S [m 25, p 90 (oNeN (L 0))]
 (C (t 90) (S [m 25, p 11 (oMv (L 0))]
 R)
 xSkip))))
 xSkip))
 (Q (S [m 15, m 16, q (oCall 124 [(L 1), (L 0)]), p 26 (oMv (L 0))]
 (S [m 26, p 96 (oNeN (L 0))]
 (C (t 96) (S [m 26, p 11 (oMv (L 0))]
 R)
 xSkip)))
 (S [m 12, m 13, m 2, q (oCall 206 [(L 2), (L 1), (L 0)]), p 11 (oMv (L 0))]
 R)))))))))))))
theorem eq_lf285 : lowAt 285 = some lf285 := by kernel_rfl
noncomputable def lf286 : LF := LF.mk [.tmp 3] (S [p 3 (oMv (sC .nils))]
 (S [m 1, q (oCall 369 [(L 0)]), p 4 (oMv (L 0))]
 (S [m 4, q (oCall 370 [(L 0)])]
 (S [m 4, p 3 (oMv (L 0))]
 R))))
theorem eq_lf286 : lowAt 286 = some lf286 := by kernel_rfl
noncomputable def lf287 : LF := LF.mk [.tmp 3] (S [p 2 (oBox (t 1)), p 3 (oMv (sC .nilf))]
 (S [q (oMkFn 371 [(t 2)]), p 3 (oMv (L 0))]
 R))
theorem eq_lf287 : lowAt 287 = some lf287 := by kernel_rfl
noncomputable def lf288 : LF := LF.mk [.tmp 5] (S [p 5 (oMv (sC (.bool false)))]
 (S [q (oMkMap), p 6 (oMv (L 0))]
 (Q (S [p 11 (oMv (t 2)), p 12 (oLenSl (L 0)), p 13 (oMv (i 0))]
 (xBlock 0 (xLoop (S [p 14 (oLt 3 Z M (t 13) (t 12))]
 (Q (C (t 14) xSkip
 (xExit 0))
 (Q (xBlock 1 (S [q (oIaddr 2 (t 11) (t 13)), q (oLoadN 2 (L 0)), p 8 (oNew (.cells 2 0 (.node (.node .nil (some .nils) .nil) (some (.int 3 0)) .nil))), q (oStore 2 (L 0) (L 1))]
 (Q (xDr [D (q (oFaddr 0 (t 8))) 2 [], D (q (oLoad1 (L 0))) 1 [], D (m 1) 2 [], D (q (oNilck (L 0))) 2 [], D (q (oFaddr 1 (L 0))) 2 [], D (q (oLoad1 (L 0))) 1 [], D (q (oLe 3 Z M (L 0) (L 4))) 2 [], D (w 0) 2 [], D (g 0 0 true (oFaddr 0 (t 8))) 2 [], D (g 0 1 true (oLoad1 (L 0))) 1 [0], D (g 0 2 true (oMv (t 1))) 2 [], D (g 0 3 true (oNilck (L 0))) 2 [], D (g 0 4 true (oFaddr 1 (L 0))) 2 [], D (g 0 5 true (oLoad1 (L 0))) 1 [0], D (g 0 6 true (oMv (t 1))) 2 [], D (g 0 7 true (oNilck (L 0))) 2 [], D (g 0 8 true (oFaddr 2 (L 0))) 2 [], D (g 0 9 true (oLoad1 (L 0))) 1 [], D (g 0 10 true (oCall 372 [(L 0)])) 0 [], D (g 0 11 true (oAdd 3 M (L 5) (L 0))) 2 [], D (g 0 12 true (oLt 3 Z M (L 10) (L 0))) 2 [], D (q (oPick (L 13) (L 0) (sC (.bool false)))) 2 [], D (p 9 (oMv (L 0))) 2 []])
 (Q (Q (xDr [D (q (oFaddr 0 (t 8))) 2 [], D (q (oLoad1 (L 0))) 1 [], D (q (oLt 3 Z M (L 0) (i 0))) 2 [], D (w 0) 2 [], D (g 0 0 false (oFaddr 0 (t 8))) 2 [], D (g 0 1 false (oLoad1 (L 0))) 1 [0], D (g 0 2 false (oMv (t 1))) 2 [], D (g 0 3 false (oNilck (L 0))) 2 [], D (g 0 4 false (oFaddr 0 (L 0))) 2 [], D (g 0 5 false (oLoad1 (L 0))) 1 [], D (g 0 6 false (oCall 256 [(L 0)])) 0 [], D (g 0 7 false (oLe 3 Z M (L 0) (L 5))) 2 [], D (q (oPick (L 8) (sC (.bool true)) (L 0))) 2 [], D (w 0) 2 [], D (g 0 0 false (oMv (t 9))) 2 [], D (q (oPick (L 1) (sC (.bool true)) (L 0))) 2 [], D (w 0) 2 [], D (g 0 0 false (oMv (t 6))) 2 [], D (g 0 1 false (oFaddr 0 (t 8))) 2 [], D (g 0 2 false (oLoad1 (L 0))) 1 [], D (g 0 3 false (oLookup false (.bool false) false (L 2) (L 0))) 1 [], D (q (oPick (L 4) (sC (.bool true)) (L 0))) 2 [], D (w 0) 2 [], D (g 0 0 false (oFaddr 1 (t 8))) 2 [], D (g 0 1 false (oLoad1 (L 0))) 1 [], D (g 0 2 false (oLenSl (L 0))) 2 [], D (g 0 3 false (oNe (eqI 3) (L 0) (i 128))) 2 [], D (p 66 (oPick (L 4) (sC (.bool true)) (L 0))) 2 []])
 (C (t 66) (S [p 5 (oMv (sC (.bool false)))]
 R)
 xSkip))
 (O [m 6, q (oFaddr 0 (t 8)), q (oLoad1 (L 0)), q (oMapSet false (L 2) (L 0) (sC (.bool true)))])))))
 (O [q (oAdd 3 M (t 13) (i 1)), p 13 (oMv (L 0))])))))))
 (S [p 5 (oMv (sC (.bool true)))]
 R))))
theorem eq_lf288 : lowAt 288 = some lf288 := by kernel_rfl
noncomputable def lf290 : LF := LF.mk [.tmp 3] (S [p 3 (oMv (sC .nils))]
 (S [p 4 (oNew (.cells 1 0 (.node .nil (some .nils) .nil)))]
 (Q (S [m 1, p 12 (oCall 373 [(L 0), (i 16)])]
 (xBlock 0 (xRf (t 12) 13 (O [p 5 (oMv (t 13))]) (xBlock 1 (S [q (oMkBs (i 128) (i 128)), p 6 (oMv (L 0))]
 (Q (S [p 15 (oMv (t 5)), p 16 (oLenSl (L 0)), p 17 (oMv (i 0))]
 (xBlock 2 (xLoop (S [p 18 (oLt 3 Z M (t 17) (t 16))]
 (Q (C (t 18) xSkip
 (xExit 2))
 (Q (xBlock 3 (S [m 17, q (oIaddr 2 (t 15) (t 17)), q (oLoadN 2 (L 0)), p 8 (oNew (.cells 2 0 (.node (.node .nil (some .nils) .nil) (some (.int 3 0)) .nil))), p 7 (oMv (L 3)), q (oStore 2 (L 1) (L 2))]
 (xDr [D (m 6) 2 [], D (m 7) 2 [], D (q (oMul 3 M (i 8) (L 0))) 2 [], D (q (oSlice 1 (L 2) (some (L 0)) none none)) 1 [], D (q (oFaddr 0 (t 8))) 2 [], D (q (oLoad1 (L 0))) 1 [], D (q (oToInt 7 M (L 0))) 2 [], D (q (oCall 374 [(L 3), (L 0)])) 0 []])))
 (O [q (oAdd 3 M (t 17) (i 1)), p 17 (oMv (L 0))])))))))
 (O [q (oLoad1 (t 4)), m 6, q (oBuildSl 1 1 (.cons .nils .nl) [(0, (L 0))]), q (oAppend 1 24 (L 2) (L 0)), q (oStore 1 (t 4) (L 0))])))))))
 (Q (S [p 35 (oMv (t 1)), p 36 (oLenSl (L 0)), p 37 (oMv (i 0))]
 (xBlock 4 (xLoop (S [p 38 (oLt 3 Z M (t 37) (t 36))]
 (Q (C (t 38) xSkip
 (xExit 4))
 (Q (xBlock 5 (S [q (oIaddr 2 (t 35) (t 37)), q (oLoadN 2 (L 0)), p 10 (oNew (.cells 2 0 (.node (.node .nil (some .nils) .nil) (some (.int 3 0)) .nil))), q (oStore 2 (L 0) (L 1))]
 (O [q (oLoad1 (t 4)), q (oFaddr 1 (t 10)), q (oLoad1 (L 0)), q (oBuildSl 1 1 (.cons .nils .nl) [(0, (L 0))]), q (oAppend 1 24 (L 3) (L 0)), q (oStore 1 (t 4) (L 0))])))
 (O [q (oAdd 3 M (t 37) (i 1)), p 37 (oMv (L 0))])))))))
 (S [q (oLoad1 (t 4)), p 3 (oMv (L 0))]
 R)))))
theorem eq_lf290 : lowAt 290 = some lf290 := by kernel_rfl
noncomputable def lf291 : LF := LF.mk [.tmp 3] (S [p 3 (oMv (sC .nili))]
 (S [m 1, q (oCall 96 [(s 7 29958897753022828), (s 0 0), (L 0)]), p 3 (oMv (L 0))]
 R))
theorem eq_lf291 : lowAt 291 = some lf291 := by kernel_rfl
noncomputable def lf292 : LF := LF.mk [.tmp 5] (S [p 5 (oMv (sC .nils))]
 (S [q (oMkBs (i 128) (i 128)), p 6 (oMv (L 0))]
 (S [m 6, q (oCopy 1 (L 0) (s 8 7165901438972754529))]
 (S [m 6, q (oSlice 1 (L 0) (some (i 8)) none none), m 1, q (oToInt 7 M (L 0)), q (oCall 374 [(L 2), (L 0)])]
 (Q (xDr [D (m 6) 2 [], D (q (oSlice 1 (L 0) (some (i 16)) none none)) 1 [1], D (m 2) 2 [], D (q (oCall 269 [(L 0)])) 0 [], D (q (oCall 374 [(L 2), (L 0)])) 0 []])
 (S [m 6, p 5 (oMv (L 0))]
 R))))))
theorem eq_lf292 : lowAt 292 = some lf292 := by kernel_rfl
noncomputable def lf293 : LF := LF.mk [.tmp 5] (S [p 5 (oMv (sC .nili))]
 (Q (S [p 9 (oMv (t 2)), p 10 (oLenSl (L 0)), p 11 (oMv (i 0))]
 (xBlock 0 (xLoop (S [p 12 (oLt 3 Z M (t 11) (t 10))]
 (Q (C (t 12) xSkip
 (xExit 0))
 (Q (xBlock 1 (S [q (oIaddr 2 (t 9) (t 11)), q (oLoadN 2 (L 0)), p 7 (oNew (.cells 2 0 (.node (.node .nil (some .nils) .nil) (some (.int 3 0)) .nil))), q (oStore 2 (L 0) (L 1))]
 (Q (xDr [D (m 1) 2 [], D (q (oNilck (L 0))) 2 [], D (q (oFaddr 0 (L 0))) 2 [], D (q (oLoad1 (L 0))) 1 [], D (q (oFaddr 0 (t 7))) 2 [], D (q (oLoad1 (L 0))) 1 [], D (q (oFaddr 1 (t 7))) 2 [], D (q (oLoad1 (L 0))) 1 [], D (q (oCall 259 [(L 4), (L 2), (L 0)])) 0 [], D (p 8 (oMv (L 0))) 2 []])
 (S [m 8, p 25 (oNeN (L 0))]
 (C (t 25) (S [m 8, p 5 (oMv (L 0))]
 R)
 xSkip)))))
 (O [q (oAdd 3 M (t 11) (i 1)), p 11 (oMv (L 0))])))))))
 (Q (xDr [D (m 1) 2 [], D (q (oNilck (L 0))) 2 [], D (q (oFaddr 0 (L 0))) 2 [], D (q (oLoad1 (L 0))) 1 [2], D (m 1) 2 [], D (q (oNilck (L 0))) 2 [], D (q (oFaddr 1 (L 0))) 2 [], D (q (oLoad1 (L 0))) 1 [2], D (q (oMkBs (i 128) (i 128))) 0 [], D (q (oCall 259 [(L 5), (L 1), (L 0)])) 0 [], D (p 5 (oMv (L 0))) 2 []])
 R)))
theorem eq_lf293 : lowAt 293 = some lf293 := by kernel_rfl
noncomputable def lf294 : LF := LF.mk [.tmp 5] (S [p 5 (oMv (sC (.bool false)))]
 (S [m 2, q (oLe 3 Z M (i 0) (L 0)), w 0, g 0 0 true (oMv (t 2)), g 0 1 true (oMv (t 1)), g 0 2 true (oNilck (L 0)), g 0 3 true (oFaddr 1 (L 0)), g 0 4 true (oLoad1 (L 0)), g 0 5 true (oLt 3 Z M (L 4) (L 0)), q (oPick (L 6) (L 0) (sC (.bool false))), p 5 (oMv (L 0))]
 R))
theorem eq_lf294 : lowAt 294 = some lf294 := by kernel_rfl
noncomputable def lf296 : LF := LF.mk [.tmp 3] (S [p 3 (oMv (sC .nils))]
 (S [m 1, m 1, q (oLenSl (L 0)), m 1, q (oLenSl (L 0)), q (oSlice 1 (L 4) none (some (L 2)) (some (L 0))), p 3 (oMv (L 0))]
 R))
theorem eq_lf296 : lowAt 296 = some lf296 := by kernel_rfl
noncomputable def lf297 : LF := LF.mk [.tmp 3] (S [p 3 (oMv (sC .nils))]
 (Q (S [m 1, p 5 (oEq eqSl (L 0) (sC .nils))]
 (C (t 5) (S [p 3 (oMv (sC .nils))]
 R)
 xSkip))
 (S [q (oBuildBs 0 []), m 1, q (oAppend 1 1 (L 1) (L 0)), p 3 (oMv (L 0))]
 R)))
theorem eq_lf297 : lowAt 297 = some lf297 := by kernel_rfl
noncomputable def lf298 : LF := LF.mk [.tmp 5, .tmp 6] (S [p 5 (oMv (sC .nils)), p 6 (oMv (sC .nili))]
 (S [m 1, q (oNilck (L 0)), q (oFaddr 0 (L 0)), q (oLoad1 (L 0)), m 2, q (oCall 375 [(L 1), (L 0)]), w 0, q (oExt (L 0) 0), q (oExt (L 1) 1), p 7 (oMv (L 1)), p 8 (oMv (L 1))]
 (S [m 7, m 8, q (oCall 291 [(L 0)]), p 5 (oMv (L 2)), p 6 (oMv (L 1))]
 R)))
theorem eq_lf298 : lowAt 298 = some lf298 := by kernel_rfl
noncomputable def lf299 : LF := LF.mk [.tmp 5] (S [p 5 (oMv (sC .nili))]
 (S [m 1, q (oCall 89 [(L 0)]), m 2, q (oCall 96 [(s 5 426835667045), (L 1), (L 0)]), p 5 (oMv (L 0))]
 R))
theorem eq_lf299 : lowAt 299 = some lf299 := by kernel_rfl
noncomputable def lf300 : LF := LF.mk [.tmp 3] (S [p 3 (oMv (sC (.bool false)))]
 (S [m 1, q (oCall 172 [(L 0)]), q (oNot (L 0)), p 3 (oMv (L 0))]
 R))
theorem eq_lf300 : lowAt 300 = some lf300 := by kernel_rfl
noncomputable def lf301 : LF := LF.mk [.cellN 7 4, .tmp 8] (S [p 7 (oNew (.cells 4 0 (.node (.node (.node .nil (some (.int 3 0)) .nil) (some (.int 3 0)) .nil) (some (.int 3 0)) (.node .nil (some .nils) .nil)))), p 8 (oMv (sC .nili))]
 (Q (S [m 1, m 2, q (oCall 218 [(L 1), (L 0)]), q (oNot (L 0)), w 0, g 0 0 false (oMv (t 3)), g 0 1 false (oNot (L 0)), p 18 (oPick (L 2) (sC (.bool true)) (L 0))]
 (C (t 18) (S [q (oBuild (.cons (.int 3 0) (.cons (.int 3 0) (.cons .nils (.cons (.int 3 0) .nl)))) []), m 2, q (oCall 219 [(L 0), (i 1)]), q (oStore 4 (t 7) (L 2)), p 8 (oMv (L 1))]
 R)
 xSkip))
 (S [m 1, m 2, q (oCall 112 [(L 1), (L 0)]), w 0, q (oExt (L 0) 0), q (oExt (L 1) 1), p 9 (oNew (.cells 4 0 (.node (.node (.node .nil (some (.int 3 0)) .nil) (some (.int 3 0)) .nil) (some (.int 3 0)) (.node .nil (some .nils) .nil)))), q (oStore 4 (L 0) (L 2)), p 10 (oMv (L 2))]
 (Q (xBlock 0 (S [m 10, q (oNeN (L 0)), p 28 (oMv (L 0))]
 (C (t 28) (S [q (oBuild (.cons (.int 3 0) (.cons (.int 3 0) (.cons .nils (.cons (.int 3 0) .nl)))) []), m 2, m 10, q (oCall 220 [(L 1), (L 0)]), q (oStore 4 (t 7) (L 3)), p 8 (oMv (L 1))]
 R)
 (S [q (oFaddr 0 (t 9)), q (oLoad1 (L 0)), q (oEq (eqI 3) (L 0) (i 0)), p 35 (oMv (L 0))]
 (C (t 35) (S [q (oBuild (.cons (.int 3 0) (.cons (.int 3 0) (.cons .nils (.cons (.int 3 0) .nl)))) []), m 2, q (oCall 219 [(L 0), (i 11)]), q (oStore 4 (t 7) (L 2)), p 8 (oMv (L 1))]
 R)
 xSkip)))))
 (S [q (oLoadN 4 (t 9)), q (oStore 4 (t 7) (L 0)), p 8 (oMv (sC .nili))]
 R)))))
theorem eq_lf301 : lowAt 301 = some lf301 := by kernel_rfl
noncomputable def lf302 : LF := LF.mk [.tmp 3, .tmp 4] (S [p 3 (oMv (i 0)), p 4 (oMv (sC .nili))]
 (S [m 1, q (oCall 130 [(L 0)]), w 0, q (oExt (L 0) 0), q (oExt (L 1) 1), p 5 (oMv (L 1)), p 6 (oMv (L 1))]
 (S [m 5, q (oLenSl (L 0)), m 6, q (oCall 129 [(s 0 0), (L 0)]), p 3 (oMv (L 2)), p 4 (oMv (L 1))]
 R)))
theorem eq_lf302 : lowAt 302 = some lf302 := by kernel_rfl
noncomputable def lf303 : LF := LF.mk [.tmp 5, .tmp 6] (S [p 5 (oMv (i 0)), p 6 (oMv (sC .nili))]
 (Q (S [p 7 (oMv (i 1))]
 (xBlock 0 (xLoop (Q (S [m 7, m 1, q (oNilck (L 0)), q (oFaddr 3 (L 0)), q (oLoad1 (L 0)), p 15 (oLe 3 Z M (L 4) (L 0))]
 (C (t 15) xSkip
 (xExit 0)))
 (Q (xBlock 1 (S [m 1, m 7, q (oCall 112 [(L 1), (L 0)]), w 0, q (oExt (L 0) 0), q (oExt (L 1) 1), p 8 (oNew (.cells 4 0 (.node (.node (.node .nil (some (.int 3 0)) .nil) (some (.int 3 0)) .nil) (some (.int 3 0)) (.node .nil (some .nils) .nil)))), q (oStore 4 (L 0) (L 2)), p 9 (oMv (L 2))]
 (Q (S [m 9, q (oEqN (L 0)), w 0, g 0 0 true (oFaddr 0 (t 8)), g 0 1 true (oLoad1 (L 0)), g 0 2 true (oEq (eqI 3) (L 0) (i 0)), p 30 (oPick (L 3) (L 0) (sC (.bool false)))]
 (C (t 30) (S [m 1, m 7, m 2, q (oBuild (.cons (.int 3 0) (.cons (.int 3 0) (.cons .nils (.cons (.int 3 0) .nl)))) [(0, 1, (L 0))]), q (oCall 308 [(L 3), (L 2), (L 0)]), p 9 (oMv (L 0))]
 (S [m 9, p 37 (oEqN (L 0))]
 (C (t 37) (S [m 7, p 5 (oMv (L 0)), p 6 (oMv (sC .nili))]
 R)
 xSkip)))
 xSkip))
 (S [m 9, p 40 (oNeN (L 0))]
 (C (t 40) (S [m 9, q (oCall 96 [(s 5 452824360037), (s 0 0), (L 0)]), p 5 (oMv (i 0)), p 6 (oMv (L 1))]
 R)
 xSkip)))))
 (O [m 7, q (oAdd 3 M (L 0) (i 1)), p 7 (oMv (L 0))]))))))
 (S [q (oCall 87 [(s 5 452824360037), (s 0 0), (i 16)]), p 5 (oMv (i 0)), p 6 (oMv (L 1))]
 R)))
theorem eq_lf303 : lowAt 303 = some lf303 := by kernel_rfl
noncomputable def lf304 : LF := LF.mk [.tmp 5, .tmp 6] (S [p 4 (oBox (t 2)), p 5 (oMv (sC .nils)), p 6 (oMv (sC .nili))]
 (S [p 7 (oMv (sC .nils))]
 (Q (S [q (oFaddr 2 (t 4)), p 13 (oLoad1 (L 0)), p 14 (oLenSl (L 0)), p 15 (oMv (i 0))]
 (xBlock 0 (xLoop (S [p 16 (oLt 3 Z M (t 15) (t 14))]
 (Q (C (t 16) xSkip
 (xExit 0))
 (Q (xBlock 1 (S [q (oIaddr 1 (t 13) (t 15)), q (oLoad1 (L 0)), p 9 (oMv (L 0))]
 (S [m 1, q (oNilck (L 0)), q (oFaddr 0 (L 0)), q (oLoad1 (L 0)), m 9, q (oCall 195 [(L 1), (L 0)]), w 0, q (oExt (L 0) 0), q (oExt (L 1) 1), p 10 (oMv (L 1)), p 11 (oMv (L 1))]
 (Q (S [m 11, p 29 (oNeN (L 0))]
 (C (t 29) (S [m 11, p 5 (oMv (sC .nils)), p 6 (oMv (L 1))]
 R)
 xSkip))
 (O [m 7, m 10, q (oAppend 1 1 (L 1) (L 0)), p 7 (oMv (L 0))])))))
 (O [q (oAdd 3 M (t 15) (i 1)), p 15 (oMv (L 0))])))))))
 (S [m 7, q (oFaddr 1 (t 4)), q (oLoad1 (L 0)), q (oSlice 1 (L 2) none (some (L 0)) none), p 5 (oMv (L 0)), p 6 (oMv (sC .nili))]
 R))))
theorem eq_lf304 : lowAt 304 = some lf304 := by kernel_rfl
noncomputable def lf305 : LF := LF.mk [.tmp 11] (S [p 8 (oBox (t 3)), p 11 (oMv (sC .nili))]
 (S [m 1, q (oNilck (L 0)), q (oFaddr 1 (L 0)), q (oLoad1 (L 0)), q (oCall 50 [(L 0)]), w 0, q (oExt (L 0) 0), q (oExt (L 1) 1), p 12 (oMv (L 1)), p 13 (oMv (L 1))]
 (Q (xBlock 0 (S [m 13, q (oNeN (L 0)), p 25 (oMv (L 0))]
 (C (t 25) (S [m 13, p 11 (oMv (L 0))]
 R)
 (S [q (oFaddr 1 (t 8)), q (oLoad1 (L 0)), m 5, q (oLenSl (L 0)), q (oCall 203 [(L 2), (L 0)]), m 12, q (oLt 3 Z M (L 0) (L 1)), p 29 (oMv (L 0))]
 (C (t 29) (S [q (oMkIf 84 (i 15)), p 11 (oMv (L 0))]
 R)
 xSkip)))))
 (Q (S [m 1, q (oLoadN 4 (t 8)), m 5, q (oLenSl (L 0)), q (oCall 307 [(L 3), (L 2), (L 0)]), w 0, q (oExt (L 0) 0), q (oExt (L 1) 1), q (oStore 4 (t 8) (L 1)), p 13 (oMv (L 1))]
 (S [m 13, p 47 (oNeN (L 0))]
 (C (t 47) (S [m 13, p 11 (oMv (L 0))]
 R)
 xSkip)))
 (Q (S [m 4, q (oQuo 3 Z (L 0) (i 128)), p 14 (oMv (L 0))]
 (xBlock 1 (xLoop (Q (S [m 14, q (oFaddr 2 (t 8)), q (oLoad1 (L 0)), q (oLenSl (L 0)), p 55 (oLt 3 Z M (L 3) (L 0))]
 (C (t 55) xSkip
 (xExit 1)))
 (Q (xBlock 2 (S [q (oMkBs (i 128) (i 128)), p 15 (oMv (L 0))]
 (S [m 15, m 5, m 14, q (oMul 3 M (L 0) (i 128)), q (oSlice 1 (L 2) (some (L 0)) none none), q (oCopy 1 (L 4) (L 0))]
 (Q (xDr [D (m 1) 2 [], D (q (oNilck (L 0))) 2 [], D (q (oFaddr 0 (L 0))) 2 [], D (q (oLoad1 (L 0))) 1 [], D (q (oFaddr 2 (t 8))) 2 [], D (q (oLoad1 (L 0))) 1 [], D (m 14) 2 [], D (q (oIaddr 1 (L 1) (L 0))) 2 [], D (q (oLoad1 (L 0))) 1 [], D (m 15) 2 [], D (q (oCall 376 [(L 6), (L 1), (i 0), (L 0)])) 0 [], D (p 16 (oMv (L 0))) 2 []])
 (S [m 16, p 77 (oNeN (L 0))]
 (C (t 77) (S [m 16, p 11 (oMv (L 0))]
 R)
 xSkip))))))
 (O [m 14, q (oAdd 3 M (L 0) (i 1)), p 14 (oMv (L 0))]))))))
 (S [m 1, m 2, q (oLoadN 4 (t 8)), q (oCall 308 [(L 2), (L 1), (L 0)]), p 11 (oMv (L 0))]
 R))))))
theorem eq_lf305 : lowAt 305 = some lf305 := by kernel_rfl
noncomputable def lf306 : LF := LF.mk [.tmp 5] (S [p 4 (oBox (t 2)), p 5 (oMv (i 0))]
 (S [m 1, q (oMkFn 378 [(t 4)]), q (oCall 377 [(L 1), (L 0)]), p 5 (oMv (L 0))]
 R))
theorem eq_lf306 : lowAt 306 = some lf306 := by kernel_rfl
noncomputable def lf307 : LF := LF.mk [.cellN 7 4, .tmp 8] (S [p 5 (oBox (t 2)), p 7 (oNew (.cells 4 0 (.node (.node (.node .nil (some (.int 3 0)) .nil) (some (.int 3 0)) .nil) (some (.int 3 0)) (.node .nil (some .nils) .nil)))), p 8 (oMv (sC .nili))]
 (S [m 3, q (oCall 197 [(L 0)]), p 9 (oMv (L 0))]
 (Q (xBlock 0 (xLoop (Q (S [q (oFaddr 2 (t 5)), q (oLoad1 (L 0)), q (oLenSl (L 0)), m 9, p 23 (oLt 3 Z M (L 0) (L 1))]
 (C (t 23) xSkip
 (xExit 0)))
 (xBlock 1 (S [q (oFaddr 2 (t 5)), q (oLoad1 (L 0)), q (oLenSl (L 0)), q (oSub 3 M (L 0) (i 1)), p 10 (oMv (L 0))]
 (Q (Q (xDr [D (m 1) 2 [], D (q (oNilck (L 0))) 2 [], D (q (oFaddr 1 (L 0))) 2 [], D (q (oLoad1 (L 0))) 1 [], D (q (oFaddr 2 (t 5))) 2 [], D (q (oLoad1 (L 0))) 1 [], D (m 10) 2 [], D (q (oIaddr 1 (L 1) (L 0))) 2 [], D (q (oLoad1 (L 0))) 1 [], D (q (oCall 379 [(L 5), (L 0)])) 0 [], D (p 11 (oMv (L 0))) 2 []])
 (S [m 11, p 39 (oNeN (L 0))]
 (C (t 39) (S [q (oLoadN 4 (t 5)), m 11, q (oStore 4 (t 7) (L 1)), p 8 (oMv (L 1))]
 R)
 xSkip)))
 (O [q (oFaddr 2 (t 5)), q (oLoad1 (L 0)), m 10, q (oSlice 1 (L 1) none (some (L 0)) none), q (oFaddr 2 (t 5)), q (oStore 1 (L 0) (L 1))])))))))
 (Q (S [m 9, q (oLe 3 Z M (L 0) (i 8)), w 0, g 0 0 true (oFaddr 3 (t 5)), g 0 1 true (oLoad1 (L 0)), g 0 2 true (oLt 3 Z M (i 0) (L 0)), p 53 (oPick (L 3) (L 0) (sC (.bool false)))]
 (C (t 53) (Q (Q (xDr [D (m 1) 2 [], D (q (oNilck (L 0))) 2 [], D (q (oFaddr 1 (L 0))) 2 [], D (q (oLoad1 (L 0))) 1 [], D (q (oFaddr 3 (t 5))) 2 [], D (q (oLoad1 (L 0))) 1 [], D (q (oCall 379 [(L 2), (L 0)])) 0 [], D (p 12 (oMv (L 0))) 2 []])
 (S [m 12, p 62 (oNeN (L 0))]
 (C (t 62) (S [q (oLoadN 4 (t 5)), m 12, q (oStore 4 (t 7) (L 1)), p 8 (oMv (L 1))]
 R)
 xSkip)))
 (O [q (oFaddr 3 (t 5)), q (oStore 1 (L 0) (i 0))]))
 xSkip))
 (Q (xBlock 2 (xLoop (Q (S [q (oFaddr 2 (t 5)), q (oLoad1 (L 0)), q (oLenSl (L 0)), m 9, p 70 (oLt 3 Z M (L 1) (L 0))]
 (C (t 70) xSkip
 (xExit 2)))
 (xBlock 3 (S [m 1, q (oNilck (L 0)), q (oFaddr 1 (L 0)), q (oLoad1 (L 0)), q (oCall 380 [(L 0)]), w 0, q (oExt (L 0) 0), q (oExt (L 1) 1), p 13 (oMv (L 1)), p 14 (oMv (L 1))]
 (Q (S [m 14, p 80 (oEqN (L 0))]
 (C (t 80) (xDr [D (m 1) 2 [], D (q (oNilck (L 0))) 2 [], D (q (oFaddr 0 (L 0))) 2 [], D (q (oLoad1 (L 0))) 1 [2], D (m 13) 2 [], D (q (oMkBs (i 128) (i 128))) 0 [], D (q (oCall 376 [(L 2), (L 1), (i 0), (L 0)])) 0 [], D (p 14 (oMv (L 0))) 2 []])
 xSkip))
 (Q (S [m 14, p 89 (oNeN (L 0))]
 (C (t 89) (S [q (oLoadN 4 (t 5)), m 14, q (oStore 4 (t 7) (L 1)), p 8 (oMv (L 1))]
 R)
 xSkip))
 (O [q (oFaddr 2 (t 5)), q (oLoad1 (L 0)), m 13, q (oBuildSl 1 1 (.cons (.int 3 0) .nl) [(0, (L 0))]), q (oAppend 1 8 (L 2) (L 0)), q (oFaddr 2 (t 5)), q (oStore 1 (L 0) (L 1))]))))))))
 (Q (S [m 9, q (oLt 3 Z M (i 8) (L 0)), w 0, g 0 0 true (oFaddr 3 (t 5)), g 0 1 true (oLoad1 (L 0)), g 0 2 true (oEq (eqI 3) (L 0) (i 0)), p 104 (oPick (L 3) (L 0) (sC (.bool false)))]
 (C (t 104) (S [m 1, q (oNilck (L 0)), q (oFaddr 1 (L 0)), q (oLoad1 (L 0)), q (oCall 380 [(L 0)]), w 0, q (oExt (L 0) 0), q (oExt (L 1) 1), p 15 (oMv (L 1)), p 16 (oMv (L 1))]
 (Q (S [m 16, p 114 (oNeN (L 0))]
 (C (t 114) (S [q (oLoadN 4 (t 5)), m 16, q (oStore 4 (t 7) (L 1)), p 8 (oMv (L 1))]
 R)
 xSkip))
 (O [m 15, q (oFaddr 3 (t 5)), q (oStore 1 (L 0) (L 1))])))
 xSkip))
 (S [m 3, q (oFaddr 1 (t 5)), q (oStore 1 (L 0) (L 1))]
 (S [q (oLoadN 4 (t 5)), q (oStore 4 (t 7) (L 0)), p 8 (oMv (sC .nili))]
 R))))))))
theorem eq_lf307 : lowAt 307 = some lf307 := by kernel_rfl
noncomputable def lf308 : LF := LF.mk [.tmp 7] (S [p 6 (oBox (t 3)), p 7 (oMv (sC .nili))]
 (S [q (oMkBs (i 128) (i 128)), p 8 (oMv (L 0))]
 (S [m 8, q (oFaddr 0 (t 6)), q (oLoad1 (L 0)), q (oToInt 4 256 (L 0)), q (oIaddr 1 (L 3) (i 0)), q (oStore 1 (L 0) (L 1))]
 (Q (xDr [D (m 8) 2 [], D (q (oSlice 1 (L 0) (some (i 1)) none none)) 1 [2, 1], D (q (oFaddr 1 (t 6))) 2 [], D (q (oLoad1 (L 0))) 1 [], D (q (oBuildSl 1 1 (.cons (.int 3 0) .nl) [(0, (L 0))])) 0 [], D (q (oCall 381 [(L 0)])) 0 [], D (q (oCopy 1 (L 4) (L 0))) 0 []])
 (Q (xDr [D (m 8) 2 [], D (q (oSlice 1 (L 0) (some (i 4)) none none)) 1 [1], D (q (oFaddr 2 (t 6))) 2 [], D (q (oLoad1 (L 0))) 1 [], D (q (oFaddr 2 (t 6))) 2 [], D (q (oLoad1 (L 0))) 1 [], D (q (oLenSl (L 0))) 2 [], D (q (oMin 3 Z M (L 0) (i 8))) 2 [], D (q (oSlice 1 (L 4) none (some (L 0)) none)) 1 [], D (q (oCall 381 [(L 0)])) 0 [], D (q (oCopy 1 (L 8) (L 0))) 0 []])
 (Q (S [q (oFaddr 2 (t 6)), q (oLoad1 (L 0)), q (oLenSl (L 0)), p 38 (oLt 3 Z M (i 8) (L 0))]
 (C (t 38) (Q (xDr [D (m 8) 2 [], D (q (oSlice 1 (L 0) (some (i 20)) none none)) 1 [2, 1], D (q (oFaddr 3 (t 6))) 2 [], D (q (oLoad1 (L 0))) 1 [], D (q (oBuildSl 1 1 (.cons (.int 3 0) .nl) [(0, (L 0))])) 0 [], D (q (oCall 381 [(L 0)])) 0 [], D (q (oCopy 1 (L 4) (L 0))) 0 []])
 (S [q (oMkBs (i 128) (i 128)), p 9 (oMv (L 0))]
 (S [m 9, q (oFaddr 2 (t 6)), q (oLoad1 (L 0)), q (oSlice 1 (L 0) (some (i 8)) none none), q (oCall 381 [(L 0)]), q (oCopy 1 (L 4) (L 0))]
 (Q (xDr [D (m 1) 2 [], D (q (oNilck (L 0))) 2 [], D (q (oFaddr 0 (L 0))) 2 [], D (q (oLoad1 (L 0))) 1 [], D (q (oFaddr 3 (t 6))) 2 [], D (q (oLoad1 (L 0))) 1 [], D (m 9) 2 [], D (q (oCall 376 [(L 3), (L 1), (i 0), (L 0)])) 0 [], D (p 10 (oMv (L 0))) 2 []])
 (S [m 10, p 62 (oNeN (L 0))]
 (C (t 62) (S [m 10, p 7 (oMv (L 0))]
 R)
 xSkip))))))
 xSkip))
 (Q (xDr [D (m 1) 2 [], D (q (oNilck (L 0))) 2 [], D (q (oFaddr 0 (L 0))) 2 [], D (q (oLoad1 (L 0))) 1 [], D (m 1) 2 [], D (q (oNilck (L 0))) 2 [], D (q (oFaddr 2 (L 0))) 2 [], D (q (oLoad1 (L 0))) 1 [], D (m 2) 2 [], D (q (oAdd 3 M (L 1) (L 0))) 2 [], D (q (oSub 3 M (L 0) (i 1))) 2 [], D (m 8) 2 [], D (q (oCall 376 [(L 8), (L 1), (i 0), (L 0)])) 0 [], D (p 7 (oMv (L 0))) 2 []])
 R)))))))
theorem eq_lf308 : lowAt 308 = some lf308 := by kernel_rfl
noncomputable def lf309 : LF := LF.mk [.tmp 5] (S [p 5 (oMv (sC (.bool false)))]
 (S [m 1, q (oLenS (L 0)), m 2, q (oLenS (L 0)), q (oLe 3 Z M (L 0) (L 2)), w 0, g 0 0 true (oMv (t 1)), g 0 1 true (oMv (t 2)), g 0 2 true (oLenS (L 0)), g 0 3 true (oSliceS (L 2) none (some (L 0))), g 0 4 true (oMv (t 2)), g 0 5 true (oEq eqS (L 1) (L 0)), q (oPick (L 6) (L 0) (sC (.bool false))), p 5 (oMv (L 0))]
 R))
theorem eq_lf309 : lowAt 309 = some lf309 := by kernel_rfl
noncomputable def lf310 : LF := LF.mk [.tmp 9] (S [p 9 (oMv (sC .nils))]
 (Q (S [m 4, p 14 (oEq (eqI 3) (L 0) (i 0))]
 (C (t 14) (S [p 9 (oMv (sC .nils))]
 R)
 xSkip))
 (Q (S [m 2, p 16 (oEq eqS (L 0) (s 0 0))]
 (C (t 16) (S [m 1, m 4, q (oCall 382 [(L 1), (L 0)]), p 9 (oMv (L 0))]
 R)
 xSkip))
 (Q (S [m 4, p 21 (oLt 3 Z M (L 0) (i 0))]
 (C (t 21) (O [m 1, m 2, q (oCall 383 [(L 1), (L 0)]), q (oAdd 3 M (L 0) (i 1)), p 4 (oMv (L 0))])
 xSkip))
 (S [m 4, m 1, q (oLenS (L 0)), q (oAdd 3 M (L 0) (i 1)), q (oMin 3 Z M (L 3) (L 0)), p 4 (oMv (L 0))]
 (S [m 4, q (oMkSl 1 16 (.cons (.str 0 0) .nl) (L 0) (L 0)), p 10 (oMv (L 0))]
 (S [m 4, q (oSub 3 M (L 0) (i 1)), p 4 (oMv (L 0))]
 (S [p 11 (oMv (i 0))]
 (Q (xBlock 0 (xLoop (Q (S [m 11, m 4, p 37 (oLt 3 Z M (L 1) (L 0))]
 (C (t 37) xSkip
 (xExit 0)))
 (xBlock 1 (S [m 1, m 2, q (oCall 384 [(L 1), (L 0)]), p 12 (oMv (L 0))]
 (Q (S [m 12, p 42 (oLt 3 Z M (L 0) (i 0))]
 (C (t 42) (xExit 0)
 xSkip))
 (S [m 10, m 11, m 1, m 12, m 3, q (oAdd 3 M (L 1) (L 0)), q (oSliceS (L 3) none (some (L 0))), q (oIaddr 1 (L 6) (L 5)), q (oStore 1 (L 0) (L 1))]
 (S [m 1, m 12, m 2, q (oLenS (L 0)), q (oAdd 3 M (L 2) (L 0)), q (oSliceS (L 4) (some (L 0)) none), p 1 (oMv (L 0))]
 (O [m 11, q (oAdd 3 M (L 0) (i 1)), p 11 (oMv (L 0))])))))))))
 (S [m 10, m 11, m 1, q (oIaddr 1 (L 2) (L 1)), q (oStore 1 (L 0) (L 1))]
 (S [m 10, m 11, q (oAdd 3 M (L 0) (i 1)), q (oSlice 1 (L 2) none (some (L 0)) none), p 9 (oMv (L 0))]
 R)))))))))))
theorem eq_lf310 : lowAt 310 = some lf310 := by kernel_rfl
noncomputable def lf311 : LF := LF.mk [.tmp 5] (S [p 5 (oMv (i 0))]
 (Q (S [m 1, p 8 (oLenSl (L 0)), p 9 (oMv (i 0))]
 (xBlock 0 (xLoop (S [p 10 (oLt 3 Z M (t 9) (t 8))]
 (Q (C (t 10) xSkip
 (xExit 0))
 (Q (xBlock 1 (S [m 9, p 6 (oMv (L 0))]
 (S [m 2, m 1, m 6, q (oIaddr 1 (L 1) (L 0)), q (oLoad1 (L 0)), p 17 (oCallV (L 4) [(L 0)])]
 (C (t 17) (S [m 6, p 5 (oMv (L 0))]
 R)
 xSkip))))
 (O [q (oAdd 3 M (t 9) (i 1)), p 9 (oMv (L 0))])))))))
 (S [p 5 (oMv (i 18446744073709551615))]
 R)))
theorem eq_lf311 : lowAt 311 = some lf311 := by kernel_rfl
noncomputable def lf313 : LF := LF.mk [] (S [m 2, q (oAdd 3 M (L 0) (i 1)), p 9 (oMv (L 0))]
 (xBlock 0 (xLoop (Q (S [m 9, m 3, p 15 (oLt 3 Z M (L 1) (L 0))]
 (C (t 15) xSkip
 (xExit 0)))
 (Q (xBlock 1 (S [m 9, p 10 (oMv (L 0))]
 (xBlock 2 (xLoop (Q (Q (xDr [D (m 10) 2 [], D (m 2) 2 [], D (q (oLt 3 Z M (L 0) (L 1))) 2 [], D (w 0) 2 [], D (g 0 0 true (oMv (t 4))) 2 [], D (g 0 1 true (oMv (t 1))) 2 [], D (g 0 2 true (oMv (t 10))) 2 [], D (g 0 3 true (oIaddr 1 (L 1) (L 0))) 2 [], D (g 0 4 true (oLoad1 (L 0))) 1 [], D (g 0 5 true (oMv (t 1))) 2 [], D (g 0 6 true (oMv (t 10))) 2 [], D (g 0 7 true (oSub 3 M (L 0) (i 1))) 2 [], D (g 0 8 true (oIaddr 1 (L 2) (L 0))) 2 [], D (g 0 9 true (oLoad1 (L 0))) 1 [], D (g 0 10 true (oCallV (L 9) [(L 5), (L 0)])) 0 [], D (g 0 11 true (oLt 3 Z M (L 0) (i 0))) 2 [], D (p 35 (oPick (L 12) (L 0) (sC (.bool false)))) 2 []])
 (C (t 35) xSkip
 (xExit 2)))
 (Q (xBlock 3 (xDr [D (m 1) 2 [], D (m 10) 2 [], D (m 1) 2 [], D (m 10) 2 [], D (q (oSub 3 M (L 0) (i 1))) 2 [], D (m 1) 2 [], D (m 10) 2 [], D (q (oSub 3 M (L 0) (i 1))) 2 [], D (q (oIaddr 1 (L 2) (L 0))) 2 [], D (q (oLoad1 (L 0))) 1 [], D (m 1) 2 [], D (m 10) 2 [], D (q (oIaddr 1 (L 1) (L 0))) 2 [], D (q (oLoad1 (L 0))) 1 [], D (q (oIaddr 1 (L 13) (L 12))) 2 [], D (q (oStore 1 (L 0) (L 5))) 0 [], D (q (oIaddr 1 (L 13) (L 11))) 2 [], D (q (oStore 1 (L 0) (L 3))) 0 []]))
 (O [m 10, q (oSub 3 M (L 0) (i 1)), p 10 (oMv (L 0))])))))))
 (O [m 9, q (oAdd 3 M (L 0) (i 1)), p 9 (oMv (L 0))]))))))
theorem eq_lf313 : lowAt 313 = some lf313 := by kernel_rfl
noncomputable def lf322 : LF := LF.mk [.tmp 3] (S [p 3 (oMv (i 0))]
 (Q (S [m 1, p 5 (oLe 7 0 M (sC (.int 7 4294967296)) (L 0))]
 (C (t 5) (S [m 1, q (oShr 7 64 M (L 0) (sC (.int 7 32))), p 1 (oMv (L 0))]
 (O [p 3 (oMv (i 32))]))
 xSkip))
 (Q (S [m 1, p 9 (oLe 7 0 M (sC (.int 7 65536)) (L 0))]
 (C (t 9) (S [m 1, q (oShr 7 64 M (L 0) (sC (.int 7 16))), p 1 (oMv (L 0))]
 (O [m 3, q (oAdd 3 M (L 0) (i 16)), p 3 (oMv (L 0))]))
 xSkip))
 (Q (S [m 1, p 15 (oLe 7 0 M (sC (.int 7 256)) (L 0))]
 (C (t 15) (S [m 1, q (oShr 7 64 M (L 0) (sC (.int 7 8))), p 1 (oMv (L 0))]
 (O [m 3, q (oAdd 3 M (L 0) (i 8)), p 3 (oMv (L 0))]))
 xSkip))
 (S [m 3, m 1, q (oToInt 4 256 (L 0)), q (oIdxS (s 256 496986003408712215933005303621146343841837811690876167382323004466384420695090407243345123874780946046625255262057845613767806773758184921447759720770971536008171983842311960805720366577116933250839345203839274948261284255908394484732272583221484877694546905335834403051067785895034095251181560891789708940188598129052595634438001880866652824740680664595948164050600812232986714152902334120417949232733424961741260388658846598210939813666227264727603044226856020347194099943897342244906131705541414413428559898943151040826816076322978570758226444464494629814583418847495712557856038296917933182380796641777551368) (L 0)), q (oToInt 3 M (L 0)), q (oAdd 3 M (L 4) (L 0)), p 3 (oMv (L 0))]
 R)))))
theorem eq_lf322 : lowAt 322 = some lf322 := by kernel_rfl
noncomputable def lf324 : LF := LF.mk [.tmp 5] (S [p 5 (oMv (sC (.bool false)))]
 (S [m 1, q (oLenS (L 0)), m 2, q (oLenS (L 0)), q (oLe 3 Z M (L 0) (L 2)), w 0, g 0 0 true (oMv (t 1)), g 0 1 true (oMv (t 1)), g 0 2 true (oLenS (L 0)), g 0 3 true (oMv (t 2)), g 0 4 true (oLenS (L 0)), g 0 5 true (oSub 3 M (L 2) (L 0)), g 0 6 true (oSliceS (L 5) (some (L 0)) none), g 0 7 true (oMv (t 2)), g 0 8 true (oEq eqS (L 1) (L 0)), q (oPick (L 9) (L 0) (sC (.bool false))), p 5 (oMv (L 0))]
 R))
theorem eq_lf324 : lowAt 324 = some lf324 := by kernel_rfl
noncomputable def lf325 : LF := LF.mk [.tmp 5, .tmp 6, .tmp 7] (S [p 5 (oMv (s 0 0)), p 6 (oMv (s 0 0)), p 7 (oMv (sC (.bool false)))]
 (Q (S [m 1, m 2, q (oCall 390 [(L 1), (L 0)]), p 8 (oMv (L 0))]
 (S [m 8, p 13 (oLe 3 Z M (i 0) (L 0))]
 (C (t 13) (Q (xDr [D (m 1) 2 [], D (m 8) 2 [], D (q (oSliceS (L 1) none (some (L 0)))) 2 [], D (m 1) 2 [], D (m 8) 2 [], D (m 2) 2 [], D (q (oLenS (L 0))) 2 [], D (q (oAdd 3 M (L 2) (L 0))) 2 [], D (q (oSliceS (L 4) (some (L 0)) none)) 2 [], D (p 5 (oMv (L 6))) 2 [], D (p 6 (oMv (L 1))) 2 [], D (p 7 (oMv (sC (.bool true)))) 2 []])
 R)
 xSkip)))
 (S [m 1, p 5 (oMv (L 0)), p 6 (oMv (s 0 0)), p 7 (oMv (sC (.bool false)))]
 R)))
theorem eq_lf325 : lowAt 325 = some lf325 := by kernel_rfl
noncomputable def lf326 : LF := LF.mk [.tmp 3, .tmp 4] (S [p 3 (oMv (i 0)), p 4 (oMv (sC .nili))]
 (S [m 1, q (oCall 391 [(L 0)]), w 0, q (oExt (L 0) 0), q (oExt (L 1) 1), p 5 (oMv (L 1)), p 6 (oMv (L 1))]
 (Q (S [m 6, p 13 (oNeN (L 0))]
 (C (t 13) (S [m 5, m 1, m 6, q (oCall 392 [(s 4 1098149737), (L 1), (i 0), (i 0), (L 0)]), p 3 (oMv (L 3)), p 4 (oMv (L 1))]
 R)
 xSkip))
 (S [m 5, p 3 (oMv (L 0)), p 4 (oMv (sC .nili))]
 R))))
theorem eq_lf326 : lowAt 326 = some lf326 := by kernel_rfl
noncomputable def lf327 : LF := LF.mk [.tmp 5] (S [p 5 (oMv (i 0))]
 (Q (S [m 1, p 8 (oLenSl (L 0)), p 9 (oMv (i 0))]
 (xBlock 0 (xLoop (S [p 10 (oLt 3 Z M (t 9) (t 8))]
 (Q (C (t 10) xSkip
 (xExit 0))
 (Q (xBlock 1 (S [m 9, p 6 (oMv (L 0))]
 (S [m 2, m 1, m 6, q (oIaddr 6 (L 1) (L 0)), q (oLoadN 6 (L 0)), p 17 (oCallV (L 4) [(L 0)])]
 (C (t 17) (S [m 6, p 5 (oMv (L 0))]
 R)
 xSkip))))
 (O [q (oAdd 3 M (t 9) (i 1)), p 9 (oMv (L 0))])))))))
 (S [p 5 (oMv (i 18446744073709551615))]
 R)))
theorem eq_lf327 : lowAt 327 = some lf327 := by kernel_rfl
noncomputable def lf328 : LF := LF.mk [.tmp 3] (S [p 3 (oMv (sC (.bool false)))]
 (Q (S [p 6 (oBuild (.cons (.int 3 0) (.cons (.int 3 0) (.cons (.int 3 0) (.cons (.int 3 0) .nl)))) [(0, 1, (i 10)), (1, 1, (i 11)), (2, 1, (i 13)), (3, 1, (i 14))]), p 7 (oMv (i 0))]
 (xBlock 0 (xLoop (S [p 8 (oLt 3 Z M (t 7) (i 4))]
 (Q (C (t 8) xSkip
 (xExit 0))
 (Q (xBlock 1 (S [q (oIdxA 4 1 false (t 6) (t 7)), p 5 (oMv (L 0))]
 (S [m 1, m 5, q (oMkIf 84 (L 0)), p 13 (oCall 47 [(L 2), (L 0)])]
 (C (t 13) (S [p 3 (oMv (sC (.bool true)))]
 R)
 xSkip))))
 (O [q (oAdd 3 M (t 7) (i 1)), p 7 (oMv (L 0))])))))))
 (S [p 3 (oMv (sC (.bool false)))]
 R)))
theorem eq_lf328 : lowAt 328 = some lf328 := by kernel_rfl
noncomputable def lf329 : LF := LF.mk [.tmp 3] (S [p 3 (oMv (sC .nils))]
 (Q (S [m 1, q (oCall 65 [(L 0)]), p 11 (oNot (L 0))]
 (C (t 11) (S [p 3 (oMv (sC .nils))]
 R)
 xSkip))
 (S [m 1, q (oCall 393 [(L 0)]), p 4 (oMv (L 0))]
 (S [m 4, q (oCall 394 [(L 0), (sC (.func 395 .nl))])]
 (S [p 5 (oMv (sC .nils))]
 (Q (S [p 16 (oMv (t 4)), p 17 (oLenSl (L 0)), p 18 (oMv (i 0))]
 (xBlock 0 (xLoop (S [p 19 (oLt 3 Z M (t 18) (t 17))]
 (Q (C (t 19) xSkip
 (xExit 0))
 (Q (xBlock 1 (S [q (oIaddr 2 (t 16) (t 18)), q (oLoadN 2 (L 0)), p 7 (oNew (.cells 2 0 (.node (.node .nil (some (.int 3 0)) .nil) (some (.int 3 0)) .nil))), q (oStore 2 (L 0) (L 1))]
 (S [m 5, q (oLenSl (L 0)), q (oSub 3 M (L 0) (i 1)), p 8 (oMv (L 0))]
 (xBlock 2 (S [q (oFaddr 0 (t 7)), q (oLoad1 (L 0)), q (oFaddr 1 (t 7)), q (oLoad1 (L 0)), q (oEq (eqI 3) (L 2) (L 0)), p 29 (oMv (L 0))]
 (C (t 29) xSkip
 (Q (xDr [D (m 8) 2 [], D (q (oLe 3 Z M (i 0) (L 0))) 2 [], D (w 0) 2 [], D (g 0 0 true (oFaddr 0 (t 7))) 2 [], D (g 0 1 true (oLoad1 (L 0))) 1 [], D (g 0 2 true (oMv (t 5))) 2 [], D (g 0 3 true (oMv (t 8))) 2 [], D (g 0 4 true (oIaddr 2 (L 1) (L 0))) 2 [], D (g 0 5 true (oFaddr 1 (L 0))) 2 [], D (g 0 6 true (oLoad1 (L 0))) 1 [], D (g 0 7 true (oLe 3 Z M (L 5) (L 0))) 2 [], D (q (oPick (L 8) (L 0) (sC (.bool false)))) 2 [], D (p 35 (oMv (L 0))) 2 []])
 (C (t 35) (xDr [D (m 5) 2 [], D (m 8) 2 [], D (m 5) 2 [], D (m 8) 2 [], D (q (oIaddr 2 (L 1) (L 0))) 2 [], D (q (oFaddr 1 (L 0))) 2 [], D (q (oLoad1 (L 0))) 1 [], D (q (oFaddr 1 (t 7))) 2 [], D (q (oLoad1 (L 0))) 1 [], D (q (oMax 3 Z M (L 2) (L 0))) 2 [], D (q (oIaddr 2 (L 9) (L 8))) 2 [], D (q (oFaddr 1 (L 0))) 2 [], D (q (oStore 1 (L 0) (L 2))) 0 []])
 (O [m 5, q (oLoadN 2 (t 7)), q (oBuildSl 1 2 (.cons (.int 3 0) (.cons (.int 3 0) .nl)) [(0, (L 0))]), q (oAppend 2 16 (L 2) (L 0)), p 5 (oMv (L 0))])))))))))
 (O [q (oAdd 3 M (t 18) (i 1)), p 18 (oMv (L 0))])))))))
 (S [m 5, q (oCall 331 [(L 0)]), p 3 (oMv (L 0))]
 R)))))))
theorem eq_lf329 : lowAt 329 = some lf329 := by kernel_rfl
noncomputable def lf330 : LF := LF.mk [.tmp 5] (S [p 3 (oBox (t 1)), p 4 (oBox (t 2)), p 5 (oMv (i 0))]
 (Q (xBlock 0 (S [q (oFaddr 1 (t 4)), q (oLoad1 (L 0)), q (oFaddr 0 (t 3)), q (oLoad1 (L 0)), q (oLe 3 Z M (L 2) (L 0)), w 0, g 0 0 false (oFaddr 0 (t 4)), g 0 1 false (oLoad1 (L 0)), g 0 2 false (oFaddr 1 (t 3)), g 0 3 false (oLoad1 (L 0)), g 0 4 false (oLe 3 Z M (L 0) (L 2)), q (oPick (L 5) (sC (.bool true)) (L 0)), p 6 (oMv (L 0))]
 (C (t 6) (S [p 5 (oMv (i 0))]
 R)
 (S [q (oFaddr 0 (t 4)), q (oLoad1 (L 0)), q (oFaddr 0 (t 3)), q (oLoad1 (L 0)), q (oLt 3 Z M (L 0) (L 2)), w 0, g 0 0 true (oFaddr 1 (t 4)), g 0 1 true (oLoad1 (L 0)), g 0 2 true (oFaddr 1 (t 3)), g 0 3 true (oLoad1 (L 0)), g 0 4 true (oLt 3 Z M (L 2) (L 0)), q (oPick (L 5) (L 0) (sC (.bool false))), p 19 (oMv (L 0))]
 (C (t 19) (S [p 5 (oMv (i 3))]
 R)
 (S [q (oFaddr 0 (t 4)), q (oLoad1 (L 0)), q (oFaddr 0 (t 3)), q (oLoad1 (L 0)), q (oLt 3 Z M (L 0) (L 2)), p 32 (oMv (L 0))]
 (C (t 32) (S [p 5 (oMv (i 1))]
 R)
 (S [q (oFaddr 1 (t 4)), q (oLoad1 (L 0)), q (oFaddr 1 (t 3)), q (oLoad1 (L 0)), q (oLt 3 Z M (L 2) (L 0)), p 38 (oMv (L 0))]
 (C (t 38) (S [p 5 (oMv (i 2))]
 R)
 xSkip)))))))))
 (S [p 5 (oMv (i 4))]
 R)))
theorem eq_lf330 : lowAt 330 = some lf330 := by kernel_rfl
noncomputable def lf331 : LF := LF.mk [.tmp 3] (S [p 3 (oMv (sC .nils))]
 (S [m 1, m 1, q (oLenSl (L 0)), m 1, q (oLenSl (L 0)), q (oSlice 2 (L 4) none (some (L 2)) (some (L 0))), p 3 (oMv (L 0))]
 R))
theorem eq_lf331 : lowAt 331 = some lf331 := by kernel_rfl
noncomputable def lf332 : LF := LF.mk [.tmp 5] (S [p 5 (oMv (i 0))]
 (Q (S [m 1, p 8 (oLenSl (L 0)), p 9 (oMv (i 0))]
 (xBlock 0 (xLoop (S [p 10 (oLt 3 Z M (t 9) (t 8))]
 (Q (C (t 10) xSkip
 (xExit 0))
 (Q (xBlock 1 (S [m 9, p 6 (oMv (L 0))]
 (S [m 2, m 1, m 6, q (oIaddr 1 (L 1) (L 0)), q (oLoad1 (L 0)), p 17 (oCallV (L 4) [(L 0)])]
 (C (t 17) (S [m 6, p 5 (oMv (L 0))]
 R)
 xSkip))))
 (O [q (oAdd 3 M (t 9) (i 1)), p 9 (oMv (L 0))])))))))
 (S [p 5 (oMv (i 18446744073709551615))]
 R)))
theorem eq_lf332 : lowAt 332 = some lf332 := by kernel_rfl
noncomputable def lf333 : LF := LF.mk [] (S [m 1, q (oCall 281 [(L 0)])]
 (Q (S [m 2, p 8 (oLt 3 Z M (L 0) (i 0))]
 (C (t 8) (O [q (oMkIf 9 (s 36 224290585932187491934864077009901487221810168082981412622409805381259267313315601542772)), q (oBad)])
 xSkip))
 (Q (xDr [D (m 1) 2 [], D (q (oNilck (L 0))) 2 [], D (q (oFaddr 1 (L 0))) 2 [], D (q (oLoad1 (L 0))) 1 [], D (q (oCap (L 0))) 2 [], D (m 1) 2 [], D (q (oNilck (L 0))) 2 [], D (q (oFaddr 1 (L 0))) 2 [], D (q (oLoad1 (L 0))) 1 [], D (q (oLenSl (L 0))) 2 [], D (q (oSub 3 M (L 5) (L 0))) 2 [], D (m 2) 2 [], D (p 22 (oLt 3 Z M (L 1) (L 0))) 2 []])
 (C (t 22) (O [m 1, m 2, q (oCall 396 [(L 1), (L 0)])])
 xSkip))))
theorem eq_lf333 : lowAt 333 = some lf333 := by kernel_rfl
noncomputable def lf334 : LF := LF.mk [.tmp 7] (S [p 4 (oBox (t 1)), p 5 (oBox (t 2)), p 6 (oBox (t 3)), p 7 (oMv (sC .nilf))]
 (S [q (oMkFn 397 [(t 5), (t 4), (t 6)]), p 7 (oMv (L 0))]
 R))
theorem eq_lf334 : lowAt 334 = some lf334 := by kernel_rfl
noncomputable def lf335 : LF := LF.mk [.cellN 3 2, .tmp 4] (S [p 3 (oNew (.cells 2 0 (.node (.node .nil (some (.str 0 0)) .nil) (some (.str 0 0)) .nil))), p 4 (oMv (sC (.bool false)))]
 (S [m 1, q (oCall 229 [(L 0), (s 1 32)]), w 0, q (oExt (L 0) 0), q (oExt (L 1) 1), q (oExt (L 2) 2), p 5 (oMv (L 2)), p 6 (oMv (L 2)), w 2]
 (S [m 5, m 6, q (oBuild (.cons (.str 0 0) (.cons (.str 0 0) .nl)) [(0, 1, (L 1)), (1, 1, (L 0))]), p 8 (oNew (.cells 2 0 (.node (.node .nil (some (.str 0 0)) .nil) (some (.str 0 0)) .nil))), q (oStore 2 (L 0) (L 1))]
 (Q (xDr [D (q (oLoadN 2 (t 8))) 1 [2], D (q (oLoadN 2 (t 8))) 1 [], D (q (oCall 95 [(L 0)])) 0 [], D (q (oStore 2 (t 3) (L 2))) 0 [], D (p 4 (oMv (L 1))) 2 []])
 R))))
theorem eq_lf335 : lowAt 335 = some lf335 := by kernel_rfl
noncomputable def lf336 : LF := LF.mk [] (S [m 2, q (oAdd 3 M (L 0) (i 1)), p 9 (oMv (L 0))]
 (xBlock 0 (xLoop (Q (S [m 9, m 3, p 15 (oLt 3 Z M (L 1) (L 0))]
 (C (t 15) xSkip
 (xExit 0)))
 (Q (xBlock 1 (S [m 9, p 10 (oMv (L 0))]
 (xBlock 2 (xLoop (Q (Q (xDr [D (m 10) 2 [], D (m 2) 2 [], D (q (oLt 3 Z M (L 0) (L 1))) 2 [], D (w 0) 2 [], D (g 0 0 true (oMv (t 4))) 2 [], D (g 0 1 true (oMv (t 1))) 2 [], D (g 0 2 true (oMv (t 10))) 2 [], D (g 0 3 true (oIaddr 6 (L 1) (L 0))) 2 [], D (g 0 4 true (oLoadN 6 (L 0))) 1 [], D (g 0 5 true (oMv (t 1))) 2 [], D (g 0 6 true (oMv (t 10))) 2 [], D (g 0 7 true (oSub 3 M (L 0) (i 1))) 2 [], D (g 0 8 true (oIaddr 6 (L 2) (L 0))) 2 [], D (g 0 9 true (oLoadN 6 (L 0))) 1 [], D (g 0 10 true (oCallV (L 9) [(L 5), (L 0)])) 0 [], D (g 0 11 true (oLt 3 Z M (L 0) (i 0))) 2 [], D (p 35 (oPick (L 12) (L 0) (sC (.bool false)))) 2 []])
 (C (t 35) xSkip
 (xExit 2)))
 (Q (xBlock 3 (xDr [D (m 1) 2 [], D (m 10) 2 [], D (m 1) 2 [], D (m 10) 2 [], D (q (oSub 3 M (L 0) (i 1))) 2 [], D (m 1) 2 [], D (m 10) 2 [], D (q (oSub 3 M (L 0) (i 1))) 2 [], D (q (oIaddr 6 (L 2) (L 0))) 2 [], D (q (oLoadN 6 (L 0))) 1 [], D (m 1) 2 [], D (m 10) 2 [], D (q (oIaddr 6 (L 1) (L 0))) 2 [], D (q (oLoadN 6 (L 0))) 1 [], D (q (oIaddr 6 (L 13) (L 12))) 2 [], D (q (oStore 6 (L 0) (L 5))) 0 [], D (q (oIaddr 6 (L 13) (L 11))) 2 [], D (q (oStore 6 (L 0) (L 3))) 0 []]))
 (O [m 10, q (oSub 3 M (L 0) (i 1)), p 10 (oMv (L 0))])))))))
 (O [m 9, q (oAdd 3 M (L 0) (i 1)), p 9 (oMv (L 0))]))))))
theorem eq_lf336 : lowAt 336 = some lf336 := by kernel_rfl
noncomputable def lf342 : LF := LF.mk [.tmp 4] (S [p 4 (oMv (sC .nili))]
 (S [q (oLoad1 (t 1)), q (oLoad1 (t 2)), q (oLoad1 (t 3)), q (oCall 53 [(L 2), (L 1), (L 0), (sC (.bool true))]), p 4 (oMv (L 0))]
 R))
theorem eq_lf342 : lowAt 342 = some lf342 := by kernel_rfl
noncomputable def lf344 : LF := LF.mk [.tmp 7, .tmp 8] (S [p 7 (oMv (sC .nilp)), p 8 (oMv (sC .nili))]
 (Q (S [m 1, q (oEq eqP2 (L 0) (sC .nilp)), w 0, g 0 0 false (oMv (t 3)), g 0 1 false (oLt 3 Z M (L 0) (i 1)), q (oPick (L 2) (sC (.bool true)) (L 0)), w 0, g 0 0 false (oMv (t 3)), g 0 1 false (oLt 3 Z M (i 200) (L 0)), q (oPick (L 2) (sC (.bool true)) (L 0)), w 0, g 0 0 false (oMv (t 2)), g 0 1 false (oLt 3 Z M (L 0) (i 0)), q (oPick (L 2) (sC (.bool true)) (L 0)), w 0, g 0 0 false (oMv (t 2)), g 0 1 false (oMv (t 1)), g 0 2 false (oCall 256 [(L 0)]), g 0 3 false (oMv (t 3)), g 0 4 false (oCall 372 [(L 0)]), g 0 5 false (oSub 3 M (L 2) (L 0)), g 0 6 false (oLt 3 Z M (L 0) (L 5)), p 33 (oPick (L 7) (sC (.bool true)) (L 0))]
 (C (t 33) (S [q (oCall 289 [(i 1)]), p 7 (oMv (sC .nilp)), p 8 (oMv (L 1))]
 R)
 xSkip))
 (S [m 1, m 2, m 3, q (oBuild (.cons .nilp (.cons (.int 3 0) (.cons (.int 3 0) .nl))) [(0, 1, (L 2)), (1, 1, (L 1)), (2, 1, (L 0))]), q (oBox (L 0)), p 9 (oMv (L 0))]
 (Q (S [m 9, q (oCall 412 [(L 0)]), p 10 (oMv (L 0))]
 (S [m 10, p 43 (oNeN (L 0))]
 (C (t 43) (S [m 10, q (oCall 291 [(L 0)]), p 7 (oMv (sC .nilp)), p 8 (oMv (L 1))]
 R)
 xSkip)))
 (S [m 9, p 7 (oMv (L 0)), p 8 (oMv (sC .nili))]
 R)))))
theorem eq_lf344 : lowAt 344 = some lf344 := by kernel_rfl
noncomputable def lf345 : LF := LF.mk [.tmp 5, .tmp 6] (S [p 5 (oMv (sC .nilp)), p 6 (oMv (sC .nili))]
 (Q (S [m 1, q (oEq eqP2 (L 0) (sC .nilp)), w 0, g 0 0 false (oMv (t 2)), g 0 1 false (oLt 3 Z M (L 0) (i 1)), p 12 (oPick (L 2) (sC (.bool true)) (L 0))]
 (C (t 12) (S [m 2, q (oCall 295 [(L 0), (i 1)]), p 5 (oMv (sC .nilp)), p 6 (oMv (L 1))]
 R)
 xSkip))
 (S [m 1, m 2, q (oMkMap), q (oBuild (.cons .nilp (.cons (.int 3 0) (.cons .nilm .nl))) [(0, 1, (L 2)), (1, 1, (L 1)), (2, 1, (L 0))]), q (oBox (L 0)), p 5 (oMv (L 0)), p 6 (oMv (sC .nili))]
 R)))
theorem eq_lf345 : lowAt 345 = some lf345 := by kernel_rfl
noncomputable def lf346 : LF := LF.mk [.tmp 9, .tmp 10] (S [p 9 (oMv (sC .nilp)), p 10 (oMv (sC .nili))]
 (Q (S [m 1, q (oEq eqP2 (L 0) (sC .nilp)), w 0, g 0 0 false (oMv (t 4)), g 0 1 false (oLt 3 Z M (L 0) (i 1)), q (oPick (L 2) (sC (.bool true)) (L 0)), w 0, g 0 0 false (oMv (t 4)), g 0 1 false (oLt 3 Z M (i 2048) (L 0)), q (oPick (L 2) (sC (.bool true)) (L 0)), w 0, g 0 0 false (oMv (t 2)), g 0 1 false (oLt 3 Z M (L 0) (i 0)), q (oPick (L 2) (sC (.bool true)) (L 0)), w 0, g 0 0 false (oMv (t 3)), g 0 1 false (oLt 3 Z M (L 0) (i 0)), p 28 (oPick (L 2) (sC (.bool true)) (L 0))]
 (C (t 28) (S [q (oCall 413 [(s 0 0), (i 1)]), p 9 (oMv (sC .nilp)), p 10 (oMv (L 1))]
 R)
 xSkip))
 (S [m 1, m 2, m 3, m 4, q (oBuild (.cons .nilp (.cons (.int 3 0) (.cons (.int 3 0) (.cons (.int 3 0) .nl)))) [(0, 1, (L 3)), (1, 1, (L 2)), (2, 1, (L 1)), (3, 1, (L 0))]), q (oBox (L 0)), p 9 (oMv (L 0)), p 10 (oMv (sC .nili))]
 R)))
theorem eq_lf346 : lowAt 346 = some lf346 := by kernel_rfl
noncomputable def lf347 : LF := LF.mk [.tmp 9, .tmp 10] (S [p 9 (oMv (sC .nilp)), p 10 (oMv (sC .nili))]
 (Q (S [m 1, q (oEq eqP2 (L 0) (sC .nilp)), w 0, g 0 0 false (oMv (t 2)), g 0 1 false (oEq eqP2 (L 0) (sC .nilp)), q (oPick (L 2) (sC (.bool true)) (L 0)), w 0, g 0 0 false (oMv (t 4)), g 0 1 false (oLt 3 Z M (L 0) (i 1)), q (oPick (L 2) (sC (.bool true)) (L 0)), w 0, g 0 0 false (oMv (t 4)), g 0 1 false (oLt 3 Z M (i 200) (L 0)), q (oPick (L 2) (sC (.bool true)) (L 0)), w 0, g 0 0 false (oMv (t 3)), g 0 1 false (oLt 3 Z M (L 0) (i 0)), p 28 (oPick (L 2) (sC (.bool true)) (L 0))]
 (C (t 28) (S [q (oCall 87 [(s 5 452824360037), (s 0 0), (i 1)]), p 9 (oMv (sC .nilp)), p 10 (oMv (L 1))]
 R)
 xSkip))
 (S [m 1, m 2, m 3, m 4, q (oBuild (.cons .nilp (.cons .nilp (.cons (.int 3 0) (.cons (.int 3 0) .nl)))) [(0, 1, (L 3)), (1, 1, (L 2)), (2, 1, (L 1)), (3, 1, (L 0))]), q (oBox (L 0)), p 9 (oMv (L 0)), p 10 (oMv (sC .nili))]
 R)))
theorem eq_lf347 : lowAt 347 = some lf347 := by kernel_rfl
noncomputable def lf348 : LF := LF.mk [.tmp 7] (S [p 7 (oMv (sC .nili))]
 (Q (xBlock 0 (S [m 2, q (oLt 3 Z M (L 0) (i 0)), w 0, g 0 0 false (oMv (t 2)), g 0 1 false (oMv (t 1)), g 0 2 false (oNilck (L 0)), g 0 3 false (oFaddr 0 (L 0)), g 0 4 false (oLoad1 (L 0)), g 0 5 false (oLenSl (L 0)), g 0 6 false (oLe 3 Z M (L 0) (L 5)), q (oPick (L 7) (sC (.bool true)) (L 0)), w 0, g 0 0 false (oMv (t 3)), g 0 1 false (oNot (L 0)), q (oPick (L 2) (sC (.bool true)) (L 0)), p 8 (oMv (L 0))]
 (C (t 8) (S [m 2, q (oCall 161 [(L 0), (i 1)]), p 7 (oMv (L 0))]
 R)
 (S [m 1, q (oNilck (L 0)), q (oFaddr 3 (L 0)), q (oLoad1 (L 0)), p 26 (oMv (L 0))]
 (C (t 26) (S [m 2, q (oCall 161 [(L 0), (i 50)]), p 7 (oMv (L 0))]
 R)
 xSkip)))))
 (S [p 7 (oMv (sC .nili))]
 R)))
theorem eq_lf348 : lowAt 348 = some lf348 := by kernel_rfl
noncomputable def lf349 : LF := LF.mk [.tmp 3] (S [p 3 (oMv (sC (.bool false)))]
 (S [m 1, q (oLe 4 0 256 (sC (.int 4 97)) (L 0)), w 0, g 0 0 true (oMv (t 1)), g 0 1 true (oLe 4 0 256 (L 0) (sC (.int 4 122))), q (oPick (L 2) (L 0) (sC (.bool false))), w 0, g 0 0 false (oMv (t 1)), g 0 1 false (oLe 4 0 256 (sC (.int 4 65)) (L 0)), g 0 2 false (oMv (L 0)), g 0 0 true (oMv (t 1)), g 0 1 true (oLe 4 0 256 (L 0) (sC (.int 4 90))), g 0 5 false (oPick (L 2) (L 0) (sC (.bool false))), q (oPick (L 6) (sC (.bool true)) (L 0)), w 0, g 0 0 false (oMv (t 1)), g 0 1 false (oLe 4 0 256 (sC (.int 4 48)) (L 0)), g 0 2 false (oMv (L 0)), g 0 0 true (oMv (t 1)), g 0 1 true (oLe 4 0 256 (L 0) (sC (.int 4 57))), g 0 5 false (oPick (L 2) (L 0) (sC (.bool false))), q (oPick (L 6) (sC (.bool true)) (L 0)), p 3 (oMv (L 0))]
 R))
theorem eq_lf349 : lowAt 349 = some lf349 := by kernel_rfl
noncomputable def lf350 : LF := LF.mk [.tmp 3, .tmp 4] (S [p 3 (oMv (s 0 0)), p 4 (oMv (sC (.bool false)))]
 (Q (S [m 1, q (oLenSl (L 0)), p 9 (oLt 3 Z M (i 6) (L 0))]
 (C (t 9) (S [p 3 (oMv (s 0 0)), p 4 (oMv (sC (.bool false)))]
 R)
 xSkip))
 (S [p 5 (oMv (s 0 0))]
 (Q (S [p 6 (oMv (i 0))]
 (xBlock 0 (xLoop (Q (S [m 6, m 1, q (oLenSl (L 0)), p 13 (oLt 3 Z M (L 2) (L 0))]
 (C (t 13) xSkip
 (xExit 0)))
 (Q (xBlock 1 (Q (S [m 1, m 6, q (oIaddr 1 (L 1) (L 0)), q (oLoad1 (L 0)), q (oCall 261 [(L 0)]), p 21 (oNot (L 0))]
 (C (t 21) (S [p 3 (oMv (s 0 0)), p 4 (oMv (sC (.bool false)))]
 R)
 xSkip))
 (O [m 5, q (oCat (L 0) (s 1 47)), m 1, m 6, q (oIaddr 1 (L 1) (L 0)), q (oLoad1 (L 0)), q (oCat (L 4) (L 0)), p 5 (oMv (L 0))])))
 (O [m 6, q (oAdd 3 M (L 0) (i 1)), p 6 (oMv (L 0))]))))))
 (Q (S [m 5, p 30 (oEq eqS (L 0) (s 0 0))]
 (C (t 30) (S [p 3 (oMv (s 1 47)), p 4 (oMv (sC (.bool true)))]
 R)
 xSkip))
 (S [m 5, p 3 (oMv (L 0)), p 4 (oMv (sC (.bool true)))]
 R))))))
theorem eq_lf350 : lowAt 350 = some lf350 := by kernel_rfl
noncomputable def lf351 : LF := LF.mk [.tmp 3] (S [p 3 (oMv (i 0))]
 (S [m 1, q (oMax 3 Z M (L 0) (i 0)), q (oMin 3 Z M (L 0) (i 120)), q (oMul 3 M (i 32) (L 0)), q (oCall 352 [(L 0)]), p 3 (oMv (L 0))]
 R))
theorem eq_lf351 : lowAt 351 = some lf351 := by kernel_rfl
noncomputable def lf352 : LF := LF.mk [.tmp 3] (S [p 3 (oMv (i 0))]
 (S [m 1, q (oMax 3 Z M (L 0) (i 0)), q (oMin 3 Z M (L 0) (i 4000)), q (oAdd 3 M (L 0) (i 127)), q (oQuo 3 Z (L 0) (i 128)), p 4 (oMv (L 0))]
 (Q (S [m 4, p 11 (oLt 3 Z M (i 8) (L 0))]
 (C (t 11) (O [m 4, q (oAdd 3 M (L 0) (i 1)), p 4 (oMv (L 0))])
 xSkip))
 (S [m 4, p 3 (oMv (L 0))]
 R))))
theorem eq_lf352 : lowAt 352 = some lf352 := by kernel_rfl
noncomputable def lf353 : LF := LF.mk [.tmp 5] (S [p 5 (oMv (i 0))]
 (S [m 1, m 2, q (oCall 414 [(L 1), (L 0)]), p 5 (oMv (L 0))]
 R))
theorem eq_lf353 : lowAt 353 = some lf353 := by kernel_rfl
noncomputable def lf354 : LF := LF.mk [.tmp 5] (S [p 5 (oMv (s 0 0))]
 (Q (S [m 2, p 11 (oEq (eqI 3) (L 0) (i 10))]
 (C (t 11) (Q (S [m 1, p 13 (oLt 7 0 M (L 0) (sC (.int 7 100)))]
 (C (t 13) (S [m 1, q (oToInt 3 M (L 0)), q (oCall 357 [(L 0)]), p 5 (oMv (L 0))]
 R)
 xSkip))
 (S [p 6 (oNew (.bytes 24 0))]
 (S [m 1, q (oCall 358 [(L 0)]), p 7 (oMv (L 0))]
 (S [m 7, q (oSliceA 24 1 (t 6) none (some (L 0)) none), m 1, q (oCall 359 [(L 1), (L 0)])]
 (S [m 7, q (oSliceA 24 1 (t 6) none (some (L 0)) none), q (oBsToStr (L 0)), p 5 (oMv (L 0))]
 R)))))
 xSkip))
 (S [m 1, m 2, q (oCall 360 [(sC .nils), (L 1), (L 0), (sC (.bool false)), (sC (.bool false))]), w 0, q (oExt (L 0) 0), q (oExt (L 1) 1), w 1, p 9 (oMv (L 1))]
 (S [m 9, p 5 (oMv (L 0))]
 R))))
theorem eq_lf354 : lowAt 354 = some lf354 := by kernel_rfl
noncomputable def lf357 : LF := LF.mk [.tmp 3] (S [p 3 (oMv (s 0 0))]
 (Q (S [m 1, p 5 (oLt 3 Z M (L 0) (i 10))]
 (C (t 5) (S [m 1, m 1, q (oAdd 3 M (L 0) (i 1)), q (oSliceS (s 36 93621433862240650313326231306435056417042768930449266319129758623240466503934737414522) (some (L 2)) (some (L 0))), p 3 (oMv (L 0))]
 R)
 xSkip))
 (S [m 1, q (oMul 3 M (L 0) (i 2)), m 1, q (oMul 3 M (L 0) (i 2)), q (oAdd 3 M (L 0) (i 2)), q (oSliceS (s 200 8369396053099643259884660439900312228746471110943504458504829912206407100469475510520505676855750014530596077689858408204562721349408824591789441711103775826291439126061900675989976254244761425382494394669896706626295868329681710377411642562040512013377776180902291979747008038411282346274188424097310996521951660972735479027990947060043115083917949168200323041593656569302669535377774123378085539195783572932112166539323561441937920580889744256865042652178519653545620815178381625) (some (L 3)) (some (L 0))), p 3 (oMv (L 0))]
 R)))
theorem eq_lf357 : lowAt 357 = some lf357 := by kernel_rfl
noncomputable def lf358 : LF := LF.mk [.tmp 3] (S [p 3 (oMv (i 0))]
 (S [m 1, q (oCall 322 [(L 0)]), q (oCall 417 [(L 0)]), p 4 (oMv (L 0))]
 (S [m 4, m 1, m 4, q (oIaddrA 20 1 (sC (.ptr 2 0)) (L 0)), q (oLoad1 (L 0)), q (oLe 7 0 M (L 0) (L 3)), q (oCall 418 [(L 0)]), q (oAdd 3 M (L 6) (L 0)), p 3 (oMv (L 0))]
 R)))
theorem eq_lf358 : lowAt 358 = some lf358 := by kernel_rfl
noncomputable def lf359 : LF := LF.mk [] (S [m 1, q (oLenSl (L 0)), p 5 (oMv (L 0))]
 (Q (xBlock 0 (xLoop (Q (S [m 5, p 21 (oLe 3 Z M (i 8) (L 0))]
 (C (t 21) xSkip
 (xExit 0)))
 (xBlock 1 (S [m 2, q (oRem 7 M (L 0) (sC (.int 7 100000000))), q (oToInt 6 4294967296 (L 0)), p 6 (oMv (L 0))]
 (S [m 2, q (oQuo 7 M (L 0) (sC (.int 7 100000000))), p 2 (oMv (L 0))]
 (S [m 6, q (oQuo 6 4294967296 (L 0) (sC (.int 6 10000))), m 6, q (oRem 6 4294967296 (L 0) (sC (.int 6 10000))), p 7 (oMv (L 2)), p 8 (oMv (L 1))]
 (S [m 8, q (oQuo 6 4294967296 (L 0) (sC (.int 6 100))), q (oMul 6 4294967296 (L 0) (sC (.int 6 2))), m 8, q (oRem 6 4294967296 (L 0) (sC (.int 6 100))), q (oMul 6 4294967296 (L 0) (sC (.int 6 2))), p 9 (oMv (L 3)), p 10 (oMv (L 1))]
 (S [m 7, q (oQuo 6 4294967296 (L 0) (sC (.int 6 100))), q (oMul 6 4294967296 (L 0) (sC (.int 6 2))), m 7, q (oRem 6 4294967296 (L 0) (sC (.int 6 100))), q (oMul 6 4294967296 (L 0) (sC (.int 6 2))), p 11 (oMv (L 3)), p 12 (oMv (L 1))]
 (Q (xDr [D (m 1) 2 [], D (m 5) 2 [], D (q (oSub 3 M (L 0) (i 1))) 2 [], D (m 1) 2 [], D (m 5) 2 [], D (q (oSub 3 M (L 0) (i 2))) 2 [], D (m 10) 2 [], D (q (oAdd 6 4294967296 (L 0) (sC (.int 6 1)))) 2 [], D (q (oIdxS (s 200 8369396053099643259884660439900312228746471110943504458504829912206407100469475510520505676855750014530596077689858408204562721349408824591789441711103775826291439126061900675989976254244761425382494394669896706626295868329681710377411642562040512013377776180902291979747008038411282346274188424097310996521951660972735479027990947060043115083917949168200323041593656569302669535377774123378085539195783572932112166539323561441937920580889744256865042652178519653545620815178381625) (L 0))) 2 [], D (m 10) 2 [], D (q (oIdxS (s 200 8369396053099643259884660439900312228746471110943504458504829912206407100469475510520505676855750014530596077689858408204562721349408824591789441711103775826291439126061900675989976254244761425382494394669896706626295868329681710377411642562040512013377776180902291979747008038411282346274188424097310996521951660972735479027990947060043115083917949168200323041593656569302669535377774123378085539195783572932112166539323561441937920580889744256865042652178519653545620815178381625) (L 0))) 2 [], D (q (oIaddr 1 (L 10) (L 8))) 2 [], D (q (oStore 1 (L 0) (L 3))) 0 [], D (q (oIaddr 1 (L 9) (L 7))) 2 [], D (q (oStore 1 (L 0) (L 3))) 0 []])
 (Q (xDr [D (m 1) 2 [], D (m 5) 2 [], D (q (oSub 3 M (L 0) (i 3))) 2 [], D (m 1) 2 [], D (m 5) 2 [], D (q (oSub 3 M (L 0) (i 4))) 2 [], D (m 9) 2 [], D (q (oAdd 6 4294967296 (L 0) (sC (.int 6 1)))) 2 [], D (q (oIdxS (s 200 8369396053099643259884660439900312228746471110943504458504829912206407100469475510520505676855750014530596077689858408204562721349408824591789441711103775826291439126061900675989976254244761425382494394669896706626295868329681710377411642562040512013377776180902291979747008038411282346274188424097310996521951660972735479027990947060043115083917949168200323041593656569302669535377774123378085539195783572932112166539323561441937920580889744256865042652178519653545620815178381625) (L 0))) 2 [], D (m 9) 2 [], D (q (oIdxS (s 200 8369396053099643259884660439900312228746471110943504458504829912206407100469475510520505676855750014530596077689858408204562721349408824591789441711103775826291439126061900675989976254244761425382494394669896706626295868329681710377411642562040512013377776180902291979747008038411282346274188424097310996521951660972735479027990947060043115083917949168200323041593656569302669535377774123378085539195783572932112166539323561441937920580889744256865042652178519653545620815178381625) (L 0))) 2 [], D (q (oIaddr 1 (L 10) (L 8))) 2 [], D (q (oStore 1 (L 0) (L 3))) 0 [], D (q (oIaddr 1 (L 9) (L 7))) 2 [], D (q (oStore 1 (L 0) (L 3))) 0 []])
 (Q (xDr [D (m 1) 2 [], D (m 5) 2 [], D (q (oSub 3 M (L 0) (i 5))) 2 [], D (m 1) 2 [], D (m 5) 2 [], D (q (oSub 3 M (L 0) (i 6))) 2 [], D (m 12) 2 [], D (q (oAdd 6 4294967296 (L 0) (sC (.int 6 1)))) 2 [], D (q (oIdxS (s 200 8369396053099643259884660439900312228746471110943504458504829912206407100469475510520505676855750014530596077689858408204562721349408824591789441711103775826291439126061900675989976254244761425382494394669896706626295868329681710377411642562040512013377776180902291979747008038411282346274188424097310996521951660972735479027990947060043115083917949168200323041593656569302669535377774123378085539195783572932112166539323561441937920580889744256865042652178519653545620815178381625) (L 0))) 2 [], D (m 12) 2 [], D (q (oIdxS (s 200 8369396053099643259884660439900312228746471110943504458504829912206407100469475510520505676855750014530596077689858408204562721349408824591789441711103775826291439126061900675989976254244761425382494394669896706626295868329681710377411642562040512013377776180902291979747008038411282346274188424097310996521951660972735479027990947060043115083917949168200323041593656569302669535377774123378085539195783572932112166539323561441937920580889744256865042652178519653545620815178381625) (L 0))) 2 [], D (q (oIaddr 1 (L 10) (L 8))) 2 [], D (q (oStore 1 (L 0) (L 3))) 0 [], D (q (oIaddr 1 (L 9) (L 7))) 2 [], D (q (oStore 1 (L 0) (L 3))) 0 []])
 (Q (xDr [D (m 1) 2 [], D (m 5) 2 [], D (q (oSub 3 M (L 0) (i 7))) 2 [], D (m 1) 2 [], D (m 5) 2 [], D (q (oSub 3 M (L 0) (i 8))) 2 [], D (m 11) 2 [], D (q (oAdd 6 4294967296 (L 0) (sC (.int 6 1)))) 2 [], D (q (oIdxS (s 200 8369396053099643259884660439900312228746471110943504458504829912206407100469475510520505676855750014530596077689858408204562721349408824591789441711103775826291439126061900675989976254244761425382494394669896706626295868329681710377411642562040512013377776180902291979747008038411282346274188424097310996521951660972735479027990947060043115083917949168200323041593656569302669535377774123378085539195783572932112166539323561441937920580889744256865042652178519653545620815178381625) (L 0))) 2 [], D (m 11) 2 [], D (q (oIdxS (s 200 8369396053099643259884660439900312228746471110943504458504829912206407100469475510520505676855750014530596077689858408204562721349408824591789441711103775826291439126061900675989976254244761425382494394669896706626295868329681710377411642562040512013377776180902291979747008038411282346274188424097310996521951660972735479027990947060043115083917949168200323041593656569302669535377774123378085539195783572932112166539323561441937920580889744256865042652178519653545620815178381625) (L 0))) 2 [], D (q (oIaddr 1 (L 10) (L 8))) 2 [], D (q (oStore 1 (L 0) (L 3))) 0 [], D (q (oIaddr 1 (L 9) (L 7))) 2 [], D (q (oStore 1 (L 0) (L 3))) 0 []])
 (O [m 5, q (oSub 3 M (L 0) (i 8)), p 5 (oMv (L 0))]))))))))))))))
 (S [m 2, q (oToInt 6 4294967296 (L 0)), p 13 (oMv (L 0))]
 (Q (S [m 5, p 100 (oLe 3 Z M (i 4) (L 0))]
 (C (t 100) (S [m 13, q (oRem 6 4294967296 (L 0) (sC (.int 6 10000))), p 14 (oMv (L 0))]
 (S [m 13, q (oQuo 6 4294967296 (L 0) (sC (.int 6 10000))), p 13 (oMv (L 0))]
 (S [m 14, q (oQuo 6 4294967296 (L 0) (sC (.int 6 100))), q (oMul 6 4294967296 (L 0) (sC (.int 6 2))), m 14, q (oRem 6 4294967296 (L 0) (sC (.int 6 100))), q (oMul 6 4294967296 (L 0) (sC (.int 6 2))), p 15 (oMv (L 3)), p 16 (oMv (L 1))]
 (Q (xDr [D (m 1) 2 [], D (m 5) 2 [], D (q (oSub 3 M (L 0) (i 1))) 2 [], D (m 1) 2 [], D (m 5) 2 [], D (q (oSub 3 M (L 0) (i 2))) 2 [], D (m 16) 2 [], D (q (oAdd 6 4294967296 (L 0) (sC (.int 6 1)))) 2 [], D (q (oIdxS (s 200 8369396053099643259884660439900312228746471110943504458504829912206407100469475510520505676855750014530596077689858408204562721349408824591789441711103775826291439126061900675989976254244761425382494394669896706626295868329681710377411642562040512013377776180902291979747008038411282346274188424097310996521951660972735479027990947060043115083917949168200323041593656569302669535377774123378085539195783572932112166539323561441937920580889744256865042652178519653545620815178381625) (L 0))) 2 [], D (m 16) 2 [], D (q (oIdxS (s 200 8369396053099643259884660439900312228746471110943504458504829912206407100469475510520505676855750014530596077689858408204562721349408824591789441711103775826291439126061900675989976254244761425382494394669896706626295868329681710377411642562040512013377776180902291979747008038411282346274188424097310996521951660972735479027990947060043115083917949168200323041593656569302669535377774123378085539195783572932112166539323561441937920580889744256865042652178519653545620815178381625) (L 0))) 2 [], D (q (oIaddr 1 (L 10) (L 8))) 2 [], D (q (oStore 1 (L 0) (L 3))) 0 [], D (q (oIaddr 1 (L 9) (L 7))) 2 [], D (q (oStore 1 (L 0) (L 3))) 0 []])
 (Q (xDr [D (m 1) 2 [], D (m 5) 2 [], D (q (oSub 3 M (L 0) (i 3))) 2 [], D (m 1) 2 [], D (m 5) 2 [], D (q (oSub 3 M (L 0) (i 4))) 2 [], D (m 15) 2 [], D (q (oAdd 6 4294967296 (L 0) (sC (.int 6 1)))) 2 [], D (q (oIdxS (s 200 8369396053099643259884660439900312228746471110943504458504829912206407100469475510520505676855750014530596077689858408204562721349408824591789441711103775826291439126061900675989976254244761425382494394669896706626295868329681710377411642562040512013377776180902291979747008038411282346274188424097310996521951660972735479027990947060043115083917949168200323041593656569302669535377774123378085539195783572932112166539323561441937920580889744256865042652178519653545620815178381625) (L 0))) 2 [], D (m 15) 2 [], D (q (oIdxS (s 200 8369396053099643259884660439900312228746471110943504458504829912206407100469475510520505676855750014530596077689858408204562721349408824591789441711103775826291439126061900675989976254244761425382494394669896706626295868329681710377411642562040512013377776180902291979747008038411282346274188424097310996521951660972735479027990947060043115083917949168200323041593656569302669535377774123378085539195783572932112166539323561441937920580889744256865042652178519653545620815178381625) (L 0))) 2 [], D (q (oIaddr 1 (L 10) (L 8))) 2 [], D (q (oStore 1 (L 0) (L 3))) 0 [], D (q (oIaddr 1 (L 9) (L 7))) 2 [], D (q (oStore 1 (L 0) (L 3))) 0 []])
 (O [m 5, q (oSub 3 M (L 0) (i 4)), p 5 (oMv (L 0))]))))))
 xSkip))
 (Q (S [m 5, p 140 (oLe 3 Z M (i 2) (L 0))]
 (C (t 140) (S [m 13, q (oRem 6 4294967296 (L 0) (sC (.int 6 100))), q (oMul 6 4294967296 (L 0) (sC (.int 6 2))), p 17 (oMv (L 0))]
 (S [m 13, q (oQuo 6 4294967296 (L 0) (sC (.int 6 100))), p 13 (oMv (L 0))]
 (Q (xDr [D (m 1) 2 [], D (m 5) 2 [], D (q (oSub 3 M (L 0) (i 1))) 2 [], D (m 1) 2 [], D (m 5) 2 [], D (q (oSub 3 M (L 0) (i 2))) 2 [], D (m 17) 2 [], D (q (oAdd 6 4294967296 (L 0) (sC (.int 6 1)))) 2 [], D (q (oIdxS (s 200 8369396053099643259884660439900312228746471110943504458504829912206407100469475510520505676855750014530596077689858408204562721349408824591789441711103775826291439126061900675989976254244761425382494394669896706626295868329681710377411642562040512013377776180902291979747008038411282346274188424097310996521951660972735479027990947060043115083917949168200323041593656569302669535377774123378085539195783572932112166539323561441937920580889744256865042652178519653545620815178381625) (L 0))) 2 [], D (m 17) 2 [], D (q (oIdxS (s 200 8369396053099643259884660439900312228746471110943504458504829912206407100469475510520505676855750014530596077689858408204562721349408824591789441711103775826291439126061900675989976254244761425382494394669896706626295868329681710377411642562040512013377776180902291979747008038411282346274188424097310996521951660972735479027990947060043115083917949168200323041593656569302669535377774123378085539195783572932112166539323561441937920580889744256865042652178519653545620815178381625) (L 0))) 2 [], D (q (oIaddr 1 (L 10) (L 8))) 2 [], D (q (oStore 1 (L 0) (L 3))) 0 [], D (q (oIaddr 1 (L 9) (L 7))) 2 [], D (q (oStore 1 (L 0) (L 3))) 0 []])
 (O [m 5, q (oSub 3 M (L 0) (i 2)), p 5 (oMv (L 0))]))))
 xSkip))
 (S [m 5, p 162 (oLt 3 Z M (i 0) (L 0))]
 (C (t 162) (O [m 1, m 13, q (oAdd 6 4294967296 (sC (.int 6 48)) (L 0)), q (oToInt 4 256 (L 0)), q (oIaddr 1 (L 3) (i 0)), q (oStore 1 (L 0) (L 1))])
 xSkip)))))))
theorem eq_lf359 : lowAt 359 = some lf359 := by kernel_rfl
noncomputable def lf360 : LF := LF.mk [.tmp 11, .tmp 12] (S [p 11 (oMv (sC .nils)), p 12 (oMv (s 0 0))]
 (Q (S [m 3, q (oLt 3 Z M (L 0) (i 2)), w 0, g 0 0 false (oMv (t 3)), g 0 1 false (oEq (eqI 3) (L 0) (i 10)), q (oPick (L 2) (sC (.bool true)) (L 0)), w 0, g 0 0 false (oMv (t 3)), g 0 1 false (oLt 3 Z M (i 36) (L 0)), p 29 (oPick (L 2) (sC (.bool true)) (L 0))]
 (C (t 29) (O [q (oMkIf 9 (s 41 246610106469754729520374382893063798762619188392950542452309322365268426388011718224311510041195365)), q (oBad)])
 xSkip))
 (S [p 13 (oNew (.bytes 65 0))]
 (S [p 14 (oMv (i 65))]
 (Q (S [p 31 (oMv (t 4))]
 (C (t 31) (O [m 2, q (oNeg 7 M (L 0)), p 2 (oMv (L 0))])
 xSkip))
 (Q (S [m 3, p 35 (oCall 419 [(L 0)])]
 (C (t 35) (S [m 3, q (oToInt 7 M (L 0)), q (oCall 420 [(L 0)]), q (oToInt 7 M (L 0)), p 15 (oMv (L 0))]
 (S [m 3, q (oToInt 7 M (L 0)), p 16 (oMv (L 0))]
 (S [m 3, q (oToInt 7 M (L 0)), q (oSub 7 M (L 0) (sC (.int 7 1))), p 17 (oMv (L 0))]
 (Q (xBlock 0 (xLoop (Q (S [m 2, m 16, p 47 (oLe 7 0 M (L 0) (L 1))]
 (C (t 47) xSkip
 (xExit 0)))
 (xBlock 1 (S [m 14, q (oSub 3 M (L 0) (i 1)), p 14 (oMv (L 0))]
 (S [m 14, m 2, m 17, q (oAnd 7 (L 1) (L 0)), q (oIdxS (s 36 93621433862240650313326231306435056417042768930449266319129758623240466503934737414522) (L 0)), q (oIaddrA 65 1 (t 13) (L 4)), q (oStore 1 (L 0) (L 1))]
 (O [m 2, m 15, q (oShr 7 64 M (L 1) (L 0)), p 2 (oMv (L 0))])))))))
 (S [m 14, q (oSub 3 M (L 0) (i 1)), p 14 (oMv (L 0))]
 (O [m 14, m 2, q (oIdxS (s 36 93621433862240650313326231306435056417042768930449266319129758623240466503934737414522) (L 0)), q (oIaddrA 65 1 (t 13) (L 2)), q (oStore 1 (L 0) (L 1))]))))))
 (S [m 3, q (oToInt 7 M (L 0)), p 18 (oMv (L 0))]
 (Q (xBlock 2 (xLoop (Q (S [m 2, m 18, p 69 (oLe 7 0 M (L 0) (L 1))]
 (C (t 69) xSkip
 (xExit 2)))
 (xBlock 3 (S [m 14, q (oSub 3 M (L 0) (i 1)), p 14 (oMv (L 0))]
 (S [m 2, m 18, q (oQuo 7 M (L 1) (L 0)), p 19 (oMv (L 0))]
 (S [m 14, m 2, m 19, m 18, q (oMul 7 M (L 1) (L 0)), q (oSub 7 M (L 3) (L 0)), q (oIdxS (s 36 93621433862240650313326231306435056417042768930449266319129758623240466503934737414522) (L 0)), q (oIaddrA 65 1 (t 13) (L 6)), q (oStore 1 (L 0) (L 1))]
 (O [m 19, p 2 (oMv (L 0))]))))))))
 (S [m 14, q (oSub 3 M (L 0) (i 1)), p 14 (oMv (L 0))]
 (O [m 14, m 2, q (oIdxS (s 36 93621433862240650313326231306435056417042768930449266319129758623240466503934737414522) (L 0)), q (oIaddrA 65 1 (t 13) (L 2)), q (oStore 1 (L 0) (L 1))]))))))
 (Q (S [p 90 (oMv (t 4))]
 (C (t 90) (S [m 14, q (oSub 3 M (L 0) (i 1)), p 14 (oMv (L 0))]
 (O [m 14, q (oIaddrA 65 1 (t 13) (L 0)), q (oStore 1 (L 0) (sC (.int 4 45)))]))
 xSkip))
 (Q (S [p 95 (oMv (t 5))]
 (C (t 95) (S [m 1, m 14, q (oSliceA 65 1 (t 13) (some (L 0)) none none), q (oAppend 1 1 (L 2) (L 0)), p 11 (oMv (L 0))]
 R)
 xSkip))
 (S [m 14, q (oSliceA 65 1 (t 13) (some (L 0)) none none), q (oBsToStr (L 0)), p 12 (oMv (L 0))]
 R)))))))))
theorem eq_lf360 : lowAt 360 = some lf360 := by kernel_rfl
noncomputable def lf362 : LF := LF.mk [.tmp 3, .tmp 4] (S [p 3 (oMv (sC (.int 2 0))), p 4 (oMv (i 0))]
 (Q (S [m 1, q (oNe eqS (L 0) (s 0 0)), w 0, g 0 0 true (oMv (t 1)), g 0 1 true (oIdxS (L 0) (i 0)), g 0 2 true (oLt 4 0 256 (L 0) (sC (.int 4 128))), p 11 (oPick (L 3) (L 0) (sC (.bool false)))]
 (C (t 11) (S [m 1, q (oIdxS (L 0) (i 0)), q (oToInt 2 4294967296 (L 0)), p 3 (oMv (L 0)), p 4 (oMv (i 1))]
 R)
 (O [m 1, q (oCall 421 [(L 0)]), w 0, q (oExt (L 0) 0), q (oExt (L 1) 1), p 3 (oMv (L 1)), p 4 (oMv (L 1))])))
 R))
theorem eq_lf362 : lowAt 362 = some lf362 := by kernel_rfl
noncomputable def lf366 : LF := LF.mk [.tmp 5] (S [p 5 (oMv (sC (.bool false)))]
 (Q (S [m 1, q (oLenSl (L 0)), m 2, q (oLenSl (L 0)), p 11 (oNe (eqI 3) (L 2) (L 0))]
 (C (t 11) (S [p 5 (oMv (sC (.bool false)))]
 R)
 xSkip))
 (Q (S [m 1, p 13 (oLenSl (L 0)), p 14 (oMv (i 0))]
 (xBlock 0 (xLoop (S [p 15 (oLt 3 Z M (t 14) (t 13))]
 (Q (C (t 15) xSkip
 (xExit 0))
 (Q (xBlock 1 (S [m 14, p 6 (oMv (L 0))]
 (Q (xDr [D (m 1) 2 [], D (m 6) 2 [], D (q (oIaddr 1 (L 1) (L 0))) 2 [], D (q (oLoad1 (L 0))) 1 [], D (m 2) 2 [], D (m 6) 2 [], D (q (oIaddr 1 (L 1) (L 0))) 2 [], D (q (oLoad1 (L 0))) 1 [], D (p 25 (oNe eqS (L 4) (L 0))) 2 []])
 (C (t 25) (S [p 5 (oMv (sC (.bool false)))]
 R)
 xSkip))))
 (O [q (oAdd 3 M (t 14) (i 1)), p 14 (oMv (L 0))])))))))
 (S [p 5 (oMv (sC (.bool true)))]
 R))))
theorem eq_lf366 : lowAt 366 = some lf366 := by kernel_rfl
noncomputable def lf367 : LF := LF.mk [.tmp 9, .tmp 10] (S [p 9 (oMv (sC (.bool false))), p 10 (oMv (sC .nili))]
 (S [m 2, m 3, q (oCall 115 [(L 1), (L 0)]), w 0, q (oExt (L 0) 0), q (oExt (L 1) 1), q (oExt (L 2) 2), p 11 (oMv (L 2)), p 12 (oMv (L 2)), p 13 (oMv (L 2))]
 (Q (S [m 13, q (oNeN (L 0)), w 0, g 0 0 false (oMv (t 12)), g 0 1 false (oNot (L 0)), p 26 (oPick (L 2) (sC (.bool true)) (L 0))]
 (C (t 26) (S [m 13, p 9 (oMv (sC (.bool false))), p 10 (oMv (L 1))]
 R)
 xSkip))
 (Q (S [m 4, p 29 (oNot (L 0))]
 (C (t 29) (S [q (oMkIf 84 (i 12)), p 9 (oMv (sC (.bool true))), p 10 (oMv (L 1))]
 R)
 xSkip))
 (Q (S [m 1, m 11, q (oCall 200 [(L 1), (L 0)]), p 13 (oMv (L 0))]
 (S [m 13, p 35 (oEqN (L 0))]
 (C (t 35) (O [m 2, m 3, q (oCall 124 [(L 1), (L 0)]), p 13 (oMv (L 0))])
 xSkip)))
 (Q (S [m 13, p 40 (oEqN (L 0))]
 (C (t 40) (O [m 1, m 11, q (oCall 125 [(L 1), (L 0)]), p 13 (oMv (L 0))])
 xSkip))
 (S [m 13, p 9 (oMv (sC (.bool true))), p 10 (oMv (L 1))]
 R)))))))
theorem eq_lf367 : lowAt 367 = some lf367 := by kernel_rfl
noncomputable def lf368 : LF := LF.mk [.tmp 7] (S [p 7 (oMv (sC .nili))]
 (S [m 1, m 2, q (oCall 210 [(L 1), (L 0)]), w 0, q (oExt (L 0) 0), q (oExt (L 1) 1), q (oExt (L 2) 2), p 8 (oMv (L 2)), p 9 (oMv (L 2)), p 10 (oMv (L 2))]
 (Q (xBlock 0 (S [m 10, q (oNeN (L 0)), p 19 (oMv (L 0))]
 (C (t 19) (S [m 10, p 7 (oMv (L 0))]
 R)
 (S [m 3, q (oCall 172 [(L 0)]), q (oNot (L 0)), p 23 (oMv (L 0))]
 (C (t 23) (S [m 3, q (oCall 127 [(L 0), (i 10)]), p 7 (oMv (L 0))]
 R)
 (S [m 9, q (oLt 3 Z M (L 0) (i 0)), p 29 (oMv (L 0))]
 (C (t 29) (S [m 2, q (oCall 127 [(L 0), (i 11)]), p 7 (oMv (L 0))]
 R)
 xSkip)))))))
 (Q (S [m 8, m 3, q (oCall 306 [(L 1), (L 0)]), p 11 (oMv (L 0))]
 (S [m 11, q (oLe 3 Z M (i 0) (L 0)), w 0, g 0 0 true (oMv (t 11)), g 0 1 true (oMv (t 9)), g 0 2 true (oNe (eqI 3) (L 1) (L 0)), p 43 (oPick (L 3) (L 0) (sC (.bool false)))]
 (C (t 43) (S [m 3, q (oCall 127 [(L 0), (i 12)]), p 7 (oMv (L 0))]
 R)
 xSkip)))
 (Q (xDr [D (m 2) 2 [], D (m 1) 2 [], D (q (oNilck (L 0))) 2 [], D (q (oFaddr 0 (L 0))) 2 [], D (q (oLoad1 (L 0))) 1 [3], D (m 1) 2 [], D (q (oNilck (L 0))) 2 [], D (q (oFaddr 1 (L 0))) 2 [], D (q (oLoad1 (L 0))) 1 [3], D (m 9) 2 [], D (q (oMul 3 M (i 32) (L 0))) 2 [], D (m 3) 2 [], D (m 8) 2 [], D (m 9) 2 [], D (q (oIaddr 2 (L 1) (L 0))) 2 [], D (q (oFaddr 1 (L 0))) 2 [], D (q (oLoad1 (L 0))) 1 [], D (q (oBuild (.cons (.str 0 0) (.cons (.int 3 0) .nl)) [(0, 1, (L 5)), (1, 1, (L 0))])) 2 [], D (q (oCall 212 [(L 0)])) 0 [], D (q (oCall 208 [(L 14), (L 10), (L 8), (L 0)])) 0 [], D (q (oCall 129 [(L 19), (L 0)])) 0 [], D (p 7 (oMv (L 0))) 2 []])
 R)))))
theorem eq_lf368 : lowAt 368 = some lf368 := by kernel_rfl
noncomputable def lf369 : LF := LF.mk [.tmp 3] (S [p 3 (oMv (sC .nils))]
 (S [m 1, q (oCall 424 [(sC .nils), (L 0)]), p 3 (oMv (L 0))]
 R))
theorem eq_lf369 : lowAt 369 = some lf369 := by kernel_rfl
noncomputable def lf372 : LF := LF.mk [.tmp 3] (S [p 3 (oMv (i 0))]
 (S [m 1, q (oMax 3 Z M (L 0) (i 1)), p 1 (oMv (L 0))]
 (S [m 1, m 1, q (oQuo 3 Z (L 0) (i 16)), q (oAdd 3 M (L 2) (L 0)), m 1, q (oRem 3 Z (L 0) (i 16)), q (oMin 3 Z M (L 0) (i 1)), q (oAdd 3 M (L 3) (L 0)), q (oAdd 3 M (L 0) (i 2)), p 3 (oMv (L 0))]
 R)))
theorem eq_lf372 : lowAt 372 = some lf372 := by kernel_rfl
noncomputable def lf373 : LF := LF.mk [.tmp 5] (S [p 3 (oBox (t 1)), p 4 (oBox (t 2)), p 5 (oMv (sC .nilf))]
 (Q (S [q (oLoad1 (t 4)), p 7 (oLt 3 Z M (L 0) (i 1))]
 (C (t 7) (O [q (oMkIf 9 (s 21 145244896902778293523111026388068782839758314151985)), q (oBad)])
 xSkip))
 (S [q (oMkFn 426 [(t 3), (t 4)]), p 5 (oMv (L 0))]
 R)))
theorem eq_lf373 : lowAt 373 = some lf373 := by kernel_rfl
noncomputable def lf374 : LF := LF.mk [] (S [p 6 (oMv (i 0))]
 (xBlock 0 (xLoop (S [p 7 (oLt 3 Z M (t 6) (i 8))]
 (Q (C (t 7) xSkip
 (xExit 0))
 (Q (xBlock 1 (S [m 6, p 5 (oMv (L 0))]
 (O [m 1, m 5, m 2, m 5, q (oMul 3 M (i 8) (L 0)), q (oShr 7 64 M (L 2) (L 0)), q (oToInt 4 256 (L 0)), q (oIaddr 1 (L 6) (L 5)), q (oStore 1 (L 0) (L 1))])))
 (O [q (oAdd 3 M (t 6) (i 1)), p 6 (oMv (L 0))])))))))
theorem eq_lf374 : lowAt 374 = some lf374 := by kernel_rfl
noncomputable def lf375 : LF := LF.mk [.tmp 5, .tmp 6] (S [p 5 (oMv (sC .nils)), p 6 (oMv (sC .nili))]
 (Q (S [m 1, m 2, q (oCall 348 [(L 1), (L 0), (sC (.bool true))]), p 7 (oMv (L 0))]
 (S [m 7, p 13 (oNeN (L 0))]
 (C (t 13) (S [m 7, p 5 (oMv (sC .nils)), p 6 (oMv (L 1))]
 R)
 xSkip)))
 (S [q (oMkBs (i 128) (i 128)), p 8 (oMv (L 0))]
 (S [m 8, m 1, q (oNilck (L 0)), q (oFaddr 0 (L 0)), q (oLoad1 (L 0)), m 2, q (oIaddr 1 (L 1) (L 0)), q (oLoad1 (L 0)), q (oCopy 1 (L 7) (L 0))]
 (S [m 8, p 5 (oMv (L 0)), p 6 (oMv (sC .nili))]
 R)))))
theorem eq_lf375 : lowAt 375 = some lf375 := by kernel_rfl
noncomputable def lf376 : LF := LF.mk [.tmp 9] (S [p 9 (oMv (sC .nili))]
 (S [m 1, q (oNilck (L 0)), q (oFaddr 2 (L 0)), q (oLoad1 (L 0)), m 2, q (oLookup false .nils true (L 1) (L 0)), w 0, q (oExt (L 0) 0), q (oExt (L 1) 1), p 10 (oMv (L 1)), p 11 (oMv (L 1))]
 (Q (xBlock 0 (S [m 1, m 2, q (oCall 294 [(L 1), (L 0)]), q (oNot (L 0)), w 0, g 0 0 false (oMv (t 3)), g 0 1 false (oLt 3 Z M (L 0) (i 0)), q (oPick (L 2) (sC (.bool true)) (L 0)), w 0, g 0 0 false (oMv (t 3)), g 0 1 false (oLt 3 Z M (i 128) (L 0)), q (oPick (L 2) (sC (.bool true)) (L 0)), w 0, g 0 0 false (oMv (t 4)), g 0 1 false (oLenSl (L 0)), g 0 2 false (oMv (t 3)), g 0 3 false (oSub 3 M (i 128) (L 0)), g 0 4 false (oLt 3 Z M (L 0) (L 2)), q (oPick (L 5) (sC (.bool true)) (L 0)), p 23 (oMv (L 0))]
 (C (t 23) (S [m 2, q (oCall 295 [(L 0), (i 1)]), p 9 (oMv (L 0))]
 R)
 (Q (xDr [D (m 11) 2 [], D (q (oNot (L 0))) 2 [], D (w 0) 2 [], D (g 0 0 true (oMv (t 1))) 2 [], D (g 0 1 true (oNilck (L 0))) 2 [], D (g 0 2 true (oFaddr 2 (L 0))) 2 [], D (g 0 3 true (oLoad1 (L 0))) 1 [], D (g 0 4 true (oLenM (L 0))) 1 [], D (g 0 5 true (oMv (t 1))) 2 [], D (g 0 6 true (oNilck (L 0))) 2 [], D (g 0 7 true (oFaddr 0 (L 0))) 2 [], D (g 0 8 true (oLoad1 (L 0))) 1 [], D (g 0 9 true (oCall 427 [(L 0)])) 0 [], D (g 0 10 true (oLe 3 Z M (L 0) (L 5))) 2 [], D (q (oPick (L 11) (L 0) (sC (.bool false)))) 2 [], D (p 45 (oMv (L 0))) 2 []])
 (C (t 45) (S [m 2, q (oCall 295 [(L 0), (i 5)]), p 9 (oMv (L 0))]
 R)
 xSkip)))))
 (Q (S [m 11, p 64 (oNot (L 0))]
 (C (t 64) (S [p 12 (oMv (sC .nili))]
 (S [m 1, q (oNilck (L 0)), q (oFaddr 0 (L 0)), q (oLoad1 (L 0)), m 2, q (oCall 298 [(L 1), (L 0)]), w 0, q (oExt (L 0) 0), q (oExt (L 1) 1), p 10 (oMv (L 1)), p 12 (oMv (L 1))]
 (S [m 12, p 75 (oNeN (L 0))]
 (C (t 75) (S [m 2, m 12, q (oCall 299 [(L 1), (L 0)]), p 9 (oMv (L 0))]
 R)
 xSkip))))
 xSkip))
 (S [m 10, q (oCall 297 [(L 0)]), p 13 (oMv (L 0))]
 (S [m 13, m 3, q (oSlice 1 (L 1) (some (L 0)) none none), m 4, q (oCopy 1 (L 1) (L 0))]
 (S [m 1, q (oNilck (L 0)), q (oFaddr 2 (L 0)), q (oLoad1 (L 0)), m 2, m 13, q (oMapSet false (L 2) (L 1) (L 0))]
 (S [p 9 (oMv (sC .nili))]
 R))))))))
theorem eq_lf376 : lowAt 376 = some lf376 := by kernel_rfl
noncomputable def lf377 : LF := LF.mk [.tmp 5] (S [p 5 (oMv (i 0))]
 (Q (S [m 1, p 8 (oLenSl (L 0)), p 9 (oMv (i 0))]
 (xBlock 0 (xLoop (S [p 10 (oLt 3 Z M (t 9) (t 8))]
 (Q (C (t 10) xSkip
 (xExit 0))
 (Q (xBlock 1 (S [m 9, p 6 (oMv (L 0))]
 (S [m 2, m 1, m 6, q (oIaddr 2 (L 1) (L 0)), q (oLoadN 2 (L 0)), p 17 (oCallV (L 4) [(L 0)])]
 (C (t 17) (S [m 6, p 5 (oMv (L 0))]
 R)
 xSkip))))
 (O [q (oAdd 3 M (t 9) (i 1)), p 9 (oMv (L 0))])))))))
 (S [p 5 (oMv (i 18446744073709551615))]
 R)))
theorem eq_lf377 : lowAt 377 = some lf377 := by kernel_rfl
noncomputable def lf378 : LF := LF.mk [.tmp 4] (S [p 3 (oBox (t 1)), p 4 (oMv (sC (.bool false)))]
 (S [q (oFaddr 0 (t 3)), q (oLoad1 (L 0)), q (oLoad1 (t 2)), q (oEq eqS (L 1) (L 0)), p 4 (oMv (L 0))]
 R))
theorem eq_lf378 : lowAt 378 = some lf378 := by kernel_rfl
noncomputable def lf379 : LF := LF.mk [.tmp 5] (S [p 5 (oMv (sC .nili))]
 (S [m 2, q (oCall 89 [(L 0)]), p 6 (oMv (L 0))]
 (S [m 1, m 2, q (oCall 428 [(L 1), (L 0)]), w 0, q (oExt (L 0) 0), q (oExt (L 1) 1), p 7 (oMv (L 1)), p 8 (oMv (L 1))]
 (Q (S [m 8, p 20 (oNot (L 0))]
 (C (t 20) (S [m 6, q (oCall 413 [(L 0), (i 1)]), p 5 (oMv (L 0))]
 R)
 xSkip))
 (S [m 1, q (oCall 192 [(L 0)]), w 0, q (oExt (L 0) 0), q (oExt (L 1) 1), p 9 (oMv (L 1)), p 10 (oMv (L 1))]
 (Q (xBlock 0 (S [m 10, q (oNeN (L 0)), p 28 (oMv (L 0))]
 (C (t 28) (S [m 6, m 10, q (oCall 193 [(L 1), (L 0)]), p 5 (oMv (L 0))]
 R)
 (S [m 9, m 7, q (oCall 194 [(L 1), (L 0)]), q (oNot (L 0)), p 34 (oMv (L 0))]
 (C (t 34) (S [m 6, q (oCall 413 [(L 0), (i 7)]), p 5 (oMv (L 0))]
 R)
 xSkip)))))
 (S [m 6, m 1, m 9, m 7, q (oCall 429 [(L 2), (L 1), (L 0)]), q (oCall 193 [(L 4), (L 0)]), p 5 (oMv (L 0))]
 R)))))))
theorem eq_lf379 : lowAt 379 = some lf379 := by kernel_rfl
noncomputable def lf380 : LF := LF.mk [.tmp 3, .tmp 4] (S [p 3 (oMv (i 0)), p 4 (oMv (sC .nili))]
 (S [m 1, q (oCall 192 [(L 0)]), w 0, q (oExt (L 0) 0), q (oExt (L 1) 1), p 5 (oMv (L 1)), p 6 (oMv (L 1))]
 (Q (S [m 6, p 15 (oNeN (L 0))]
 (C (t 15) (S [m 6, q (oCall 193 [(s 0 0), (L 0)]), p 3 (oMv (i 0)), p 4 (oMv (L 1))]
 R)
 xSkip))
 (Q (S [m 1, q (oNilck (L 0)), q (oFaddr 3 (L 0)), p 21 (oLoad1 (L 0)), p 22 (oMv (i 0))]
 (xBlock 0 (xLoop (S [p 23 (oLt 3 Z M (t 22) (t 21))]
 (Q (C (t 23) xSkip
 (xExit 0))
 (Q (xBlock 1 (S [m 22, p 7 (oMv (L 0))]
 (Q (S [m 5, m 7, p 27 (oCall 194 [(L 1), (L 0)])]
 (C (t 27) (xExit 1)
 xSkip))
 (Q (S [m 1, m 5, m 7, q (oCall 429 [(L 2), (L 1), (L 0)]), p 8 (oMv (L 0))]
 (S [m 8, p 33 (oNeN (L 0))]
 (C (t 33) (S [m 8, q (oCall 193 [(s 0 0), (L 0)]), p 3 (oMv (i 0)), p 4 (oMv (L 1))]
 R)
 xSkip)))
 (S [m 1, q (oNilck (L 0)), q (oFaddr 2 (L 0)), q (oLoad1 (L 0)), m 7, q (oAdd 3 M (L 1) (L 0)), p 3 (oMv (L 0)), p 4 (oMv (sC .nili))]
 R)))))
 (O [q (oAdd 3 M (t 22) (i 1)), p 22 (oMv (L 0))])))))))
 (S [q (oCall 413 [(s 0 0), (i 15)]), p 3 (oMv (i 0)), p 4 (oMv (L 1))]
 R)))))
theorem eq_lf380 : lowAt 380 = some lf380 := by kernel_rfl
noncomputable def lf381 : LF := LF.mk [.tmp 3] (S [p 3 (oMv (sC .nils))]
 (S [p 4 (oMv (sC .nils))]
 (Q (S [p 7 (oMv (t 1)), p 8 (oLenSl (L 0)), p 9 (oMv (i 0))]
 (xBlock 0 (xLoop (S [p 10 (oLt 3 Z M (t 9) (t 8))]
 (Q (C (t 10) xSkip
 (xExit 0))
 (Q (xBlock 1 (S [q (oIaddr 1 (t 7) (t 9)), q (oLoad1 (L 0)), p 6 (oMv (L 0))]
 (O [m 4, m 6, q (oToInt 4 256 (L 0)), m 6, q (oShr 3 64 Z (L 0) (sC (.int 7 8))), q (oToInt 4 256 (L 0)), q (oBuildBs 2 [(0, (L 3)), (1, (L 0))]), q (oAppend 1 1 (L 6) (L 0)), p 4 (oMv (L 0))])))
 (O [q (oAdd 3 M (t 9) (i 1)), p 9 (oMv (L 0))])))))))
 (S [m 4, p 3 (oMv (L 0))]
 R))))
theorem eq_lf381 : lowAt 381 = some lf381 := by kernel_rfl
noncomputable def lf383 : LF := LF.mk [.tmp 5] (S [p 5 (oMv (i 0))]
 (Q (S [m 2, q (oLenS (L 0)), p 10 (oEq (eqI 3) (L 0) (i 0))]
 (C (t 10) (S [m 1, q (oCall 430 [(L 0)]), q (oAdd 3 M (L 0) (i 1)), p 5 (oMv (L 0))]
 R)
 xSkip))
 (Q (S [m 2, q (oLenS (L 0)), p 16 (oEq (eqI 3) (L 0) (i 1))]
 (C (t 16) (S [m 1, m 2, q (oIdxS (L 0) (i 0)), q (oCall 431 [(L 2), (L 0)]), p 5 (oMv (L 0))]
 R)
 xSkip))
 (S [p 6 (oMv (i 0))]
 (xBlock 0 (xLoop (xBlock 1 (S [m 1, m 2, q (oCall 384 [(L 1), (L 0)]), p 7 (oMv (L 0))]
 (Q (S [m 7, p 25 (oEq (eqI 3) (L 0) (i 18446744073709551615))]
 (C (t 25) (S [m 6, p 5 (oMv (L 0))]
 R)
 xSkip))
 (S [m 6, q (oAdd 3 M (L 0) (i 1)), p 6 (oMv (L 0))]
 (O [m 1, m 7, m 2, q (oLenS (L 0)), q (oAdd 3 M (L 2) (L 0)), q (oSliceS (L 4) (some (L 0)) none), p 1 (oMv (L 0))])))))))))))
theorem eq_lf383 : lowAt 383 = some lf383 := by kernel_rfl
noncomputable def lf384 : LF := LF.mk [.tmp 5] (S [p 5 (oMv (i 0))]
 (S [m 1, m 2, q (oCall 390 [(L 1), (L 0)]), p 5 (oMv (L 0))]
 R))
theorem eq_lf384 : lowAt 384 = some lf384 := by kernel_rfl
noncomputable def lf390 : LF := LF.mk [.tmp 5] (S [p 5 (oMv (i 0))]
 (S [m 2, q (oLenS (L 0)), p 6 (oMv (L 0))]
 (Q (xBlock 0 (S [m 6, q (oEq (eqI 3) (L 0) (i 0)), w 0, g 0 0 false (oMv (t 2)), g 0 1 false (oMv (t 1)), g 0 2 false (oEq eqS (L 1) (L 0)), q (oPick (L 3) (sC (.bool true)) (L 0)), p 17 (oMv (L 0))]
 (C (t 17) (S [p 5 (oMv (i 0))]
 R)
 (S [m 6, q (oEq (eqI 3) (L 0) (i 1)), p 25 (oMv (L 0))]
 (C (t 25) (S [m 1, m 2, q (oIdxS (L 0) (i 0)), q (oCall 414 [(L 2), (L 0)]), p 5 (oMv (L 0))]
 R)
 (S [m 6, m 1, q (oLenS (L 0)), q (oLe 3 Z M (L 0) (L 2)), p 32 (oMv (L 0))]
 (C (t 32) (S [p 5 (oMv (i 18446744073709551615))]
 R)
 (S [m 6, q (oLoad1 (sC (.ptr 1 0))), q (oLe 3 Z M (L 1) (L 0)), w 0, g 0 0 true (oMv (t 1)), g 0 1 true (oLenS (L 0)), g 0 2 true (oLe 3 Z M (L 0) (i 64)), q (oPick (L 3) (L 0) (sC (.bool false))), p 37 (oMv (L 0))]
 (C (t 37) (S [m 1, m 2, q (oCall 433 [(L 1), (L 0)]), p 5 (oMv (L 0))]
 R)
 xSkip)))))))))
 (S [m 2, q (oIdxS (L 0) (i 0)), p 7 (oMv (L 0))]
 (S [m 2, q (oIdxS (L 0) (i 1)), p 8 (oMv (L 0))]
 (S [p 9 (oMv (i 0))]
 (S [m 1, q (oLenS (L 0)), m 6, q (oSub 3 M (L 1) (L 0)), q (oAdd 3 M (L 0) (i 1)), p 10 (oMv (L 0))]
 (S [p 11 (oMv (i 0))]
 (Q (xBlock 1 (xLoop (Q (S [m 9, m 10, p 60 (oLt 3 Z M (L 1) (L 0))]
 (C (t 60) xSkip
 (xExit 1)))
 (xBlock 2 (Q (S [m 1, m 9, q (oIdxS (L 1) (L 0)), m 7, p 65 (oNe (eqI 4) (L 1) (L 0))]
 (C (t 65) (S [m 1, m 9, q (oAdd 3 M (L 0) (i 1)), m 10, q (oSliceS (L 3) (some (L 1)) (some (L 0))), m 7, q (oCall 414 [(L 1), (L 0)]), p 12 (oMv (L 0))]
 (Q (S [m 12, p 74 (oLt 3 Z M (L 0) (i 0))]
 (C (t 74) (S [p 5 (oMv (i 18446744073709551615))]
 R)
 xSkip))
 (O [m 9, m 12, q (oAdd 3 M (L 0) (i 1)), q (oAdd 3 M (L 2) (L 0)), p 9 (oMv (L 0))])))
 xSkip))
 (Q (S [m 1, m 9, q (oAdd 3 M (L 0) (i 1)), q (oIdxS (L 2) (L 0)), m 8, q (oEq (eqI 4) (L 1) (L 0)), w 0, g 0 0 true (oMv (t 1)), g 0 1 true (oMv (t 9)), g 0 2 true (oMv (t 9)), g 0 3 true (oMv (t 6)), g 0 4 true (oAdd 3 M (L 1) (L 0)), g 0 5 true (oSliceS (L 4) (some (L 3)) (some (L 0))), g 0 6 true (oMv (t 2)), g 0 7 true (oEq eqS (L 1) (L 0)), p 94 (oPick (L 8) (L 0) (sC (.bool false)))]
 (C (t 94) (S [m 9, p 5 (oMv (L 0))]
 R)
 xSkip))
 (S [m 9, q (oAdd 3 M (L 0) (i 1)), p 9 (oMv (L 0))]
 (S [m 11, q (oAdd 3 M (L 0) (i 1)), p 11 (oMv (L 0))]
 (S [m 6, q (oLoad1 (sC (.ptr 1 0))), q (oLe 3 Z M (L 1) (L 0)), w 0, g 0 0 true (oMv (t 11)), g 0 1 true (oMv (t 9)), g 0 2 true (oCall 434 [(L 0)]), g 0 3 true (oLt 3 Z M (L 0) (L 2)), p 108 (oPick (L 4) (L 0) (sC (.bool false)))]
 (C (t 108) (S [m 1, m 9, q (oSliceS (L 1) (some (L 0)) none), m 2, q (oCall 433 [(L 1), (L 0)]), p 13 (oMv (L 0))]
 (Q (S [m 13, p 115 (oLe 3 Z M (i 0) (L 0))]
 (C (t 115) (S [m 13, m 9, q (oAdd 3 M (L 1) (L 0)), p 5 (oMv (L 0))]
 R)
 xSkip))
 (S [p 5 (oMv (i 18446744073709551615))]
 R)))
 (S [m 6, q (oLoad1 (sC (.ptr 1 0))), q (oLt 3 Z M (L 0) (L 1)), w 0, g 0 0 true (oMv (t 11)), g 0 1 true (oMv (t 9)), g 0 2 true (oShr 3 64 Z (L 0) (sC (.int 7 4))), g 0 3 true (oAdd 3 M (i 4) (L 0)), g 0 4 true (oLe 3 Z M (L 0) (L 3)), q (oPick (L 5) (L 0) (sC (.bool false))), w 0, g 0 0 true (oMv (t 9)), g 0 1 true (oMv (t 10)), g 0 2 true (oLt 3 Z M (L 1) (L 0)), p 133 (oPick (L 3) (L 0) (sC (.bool false)))]
 (C (t 133) (S [m 1, m 9, q (oSliceS (L 1) (some (L 0)) none), m 2, q (oCall 435 [(L 1), (L 0)]), p 14 (oMv (L 0))]
 (Q (S [m 14, p 140 (oLt 3 Z M (L 0) (i 0))]
 (C (t 140) (S [p 5 (oMv (i 18446744073709551615))]
 R)
 xSkip))
 (S [m 9, m 14, q (oAdd 3 M (L 1) (L 0)), p 5 (oMv (L 0))]
 R)))
 xSkip))))))))))))
 (S [p 5 (oMv (i 18446744073709551615))]
 R))))))))))
theorem eq_lf390 : lowAt 390 = some lf390 := by kernel_rfl
noncomputable def lf391 : LF := LF.mk [.tmp 3, .tmp 4] (S [p 3 (oMv (i 0)), p 4 (oMv (sC .nili))]
 (S [m 1, q (oLenS (L 0)), p 5 (oMv (L 0))]
 (Q (S [q (oMv (sC (.bool false))), g 0 0 true (oMv (t 5)), g 0 1 true (oLt 3 Z M (i 0) (L 0)), g 0 2 true (oMv (L 0)), g 0 0 true (oMv (t 5)), g 0 1 true (oLt 3 Z M (L 0) (i 10)), g 0 5 true (oPick (L 2) (L 0) (sC (.bool false))), q (oPick (L 6) (L 0) (sC (.bool false))), w 0, g 0 0 false (oMv (sC (.bool true))), g 0 0 true (oMv (t 5)), g 0 1 true (oLt 3 Z M (i 0) (L 0)), g 0 2 true (oMv (L 0)), g 0 0 true (oMv (t 5)), g 0 1 true (oLt 3 Z M (L 0) (i 19)), g 0 5 true (oPick (L 2) (L 0) (sC (.bool false))), g 0 7 false (oPick (L 6) (L 0) (sC (.bool false))), p 31 (oPick (L 8) (sC (.bool true)) (L 0))]
 (C (t 31) (S [m 1, p 6 (oMv (L 0))]
 (Q (S [m 1, q (oIdxS (L 0) (i 0)), q (oEq (eqI 4) (L 0) (sC (.int 4 45))), w 0, g 0 0 false (oMv (t 1)), g 0 1 false (oIdxS (L 0) (i 0)), g 0 2 false (oEq (eqI 4) (L 0) (sC (.int 4 43))), p 40 (oPick (L 3) (sC (.bool true)) (L 0))]
 (C (t 40) (S [m 1, q (oSliceS (L 0) (some (i 1)) none), p 1 (oMv (L 0))]
 (S [m 1, q (oLenS (L 0)), p 45 (oLt 3 Z M (L 0) (i 1))]
 (C (t 45) (S [q (oMkIf 475 (i 2)), p 3 (oMv (i 0)), p 4 (oMv (L 1))]
 R)
 xSkip)))
 xSkip))
 (S [p 7 (oMv (i 0))]
 (Q (S [m 1, p 48 (oStrToBs (L 0)), p 49 (oLenSl (L 0)), p 50 (oMv (i 0))]
 (xBlock 0 (xLoop (S [p 51 (oLt 3 Z M (t 50) (t 49))]
 (Q (C (t 51) xSkip
 (xExit 0))
 (Q (xBlock 1 (S [q (oIaddr 1 (t 48) (t 50)), q (oLoad1 (L 0)), p 9 (oMv (L 0))]
 (S [m 9, q (oSub 4 256 (L 0) (sC (.int 4 48))), p 9 (oMv (L 0))]
 (Q (S [m 9, p 57 (oLt 4 0 256 (sC (.int 4 9)) (L 0))]
 (C (t 57) (S [q (oMkIf 475 (i 2)), p 3 (oMv (i 0)), p 4 (oMv (L 1))]
 R)
 xSkip))
 (O [m 7, q (oMul 3 M (L 0) (i 10)), m 9, q (oToInt 3 M (L 0)), q (oAdd 3 M (L 2) (L 0)), p 7 (oMv (L 0))])))))
 (O [q (oAdd 3 M (t 50) (i 1)), p 50 (oMv (L 0))])))))))
 (Q (S [m 6, q (oIdxS (L 0) (i 0)), p 67 (oEq (eqI 4) (L 0) (sC (.int 4 45)))]
 (C (t 67) (O [m 7, q (oNeg 3 M (L 0)), p 7 (oMv (L 0))])
 xSkip))
 (S [m 7, p 3 (oMv (L 0)), p 4 (oMv (sC .nili))]
 R))))))
 xSkip))
 (S [m 1, q (oCall 436 [(L 0), (i 10), (i 0)]), w 0, q (oExt (L 0) 0), q (oExt (L 1) 1), p 10 (oMv (L 1)), p 11 (oMv (L 1))]
 (S [m 10, m 11, p 3 (oMv (L 1)), p 4 (oMv (L 1))]
 R)))))
theorem eq_lf391 : lowAt 391 = some lf391 := by kernel_rfl
noncomputable def lf393 : LF := LF.mk [.tmp 3] (S [p 3 (oMv (sC .nils))]
 (Q (S [m 1, p 5 (oEq eqSl (L 0) (sC .nils))]
 (C (t 5) (S [p 3 (oMv (sC .nils))]
 R)
 xSkip))
 (S [q (oBuildSl 0 2 (.cons (.int 3 0) (.cons (.int 3 0) .nl)) []), m 1, q (oAppend 2 16 (L 1) (L 0)), p 3 (oMv (L 0))]
 R)))
theorem eq_lf393 : lowAt 393 = some lf393 := by kernel_rfl
noncomputable def lf394 : LF := LF.mk [] (S [m 1, q (oLenSl (L 0)), p 5 (oMv (L 0))]
 (O [m 1, m 5, m 5, q (oToInt 7 M (L 0)), q (oCall 225 [(L 0)]), m 2, q (oCall 441 [(L 5), (i 0), (L 4), (L 1), (L 0)])]))
theorem eq_lf394 : lowAt 394 = some lf394 := by kernel_rfl
noncomputable def lf396 : LF := LF.mk [] (Q (xDr [D (m 1) 2 [], D (q (oNilck (L 0))) 2 [], D (q (oFaddr 1 (L 0))) 2 [], D (q (oLoad1 (L 0))) 1 [], D (q (oCap (L 0))) 2 [], D (q (oMul 3 M (i 2) (L 0))) 2 [], D (m 2) 2 [], D (q (oAdd 3 M (L 1) (L 0))) 2 [], D (q (oCall 442 [(L 0)])) 0 [], D (m 1) 2 [], D (q (oNilck (L 0))) 2 [], D (q (oFaddr 1 (L 0))) 2 [], D (q (oLoad1 (L 0))) 1 [8], D (q (oLenSl (L 0))) 2 [], D (q (oSlice 1 (L 5) none (some (L 0)) none)) 1 [], D (p 5 (oMv (L 0))) 2 []])
 (S [m 5, m 1, q (oNilck (L 0)), q (oFaddr 1 (L 0)), q (oLoad1 (L 0)), q (oCopy 1 (L 4) (L 0))]
 (O [m 1, m 5, q (oNilck (L 1)), q (oFaddr 1 (L 0)), q (oStore 1 (L 0) (L 2))])))
theorem eq_lf396 : lowAt 396 = some lf396 := by kernel_rfl
noncomputable def lf412 : LF := LF.mk [.tmp 3] (S [p 3 (oMv (sC .nili))]
 (S [m 1, q (oCall 449 [(L 0)]), w 0, q (oExt (L 0) 0), q (oExt (L 1) 1), p 4 (oMv (L 1)), p 5 (oMv (L 1))]
 (Q (S [m 5, q (oNeN (L 0)), w 0, g 0 0 false (oMv (t 4)), g 0 1 false (oLenSl (L 0)), g 0 2 false (oEq (eqI 3) (L 0) (i 0)), p 17 (oPick (L 3) (sC (.bool true)) (L 0))]
 (C (t 17) (S [m 5, p 3 (oMv (L 0))]
 R)
 xSkip))
 (S [m 1, m 4, q (oCall 293 [(L 1), (L 0)]), p 3 (oMv (L 0))]
 R))))
theorem eq_lf412 : lowAt 412 = some lf412 := by kernel_rfl
noncomputable def lf414 : LF := LF.mk [.tmp 5] (S [p 5 (oMv (i 0))]
 (S [m 1, m 2, q (oCall 450 [(L 1), (L 0)]), p 5 (oMv (L 0))]
 R))
theorem eq_lf414 : lowAt 414 = some lf414 := by kernel_rfl
noncomputable def lf417 : LF := LF.mk [.tmp 3] (S [p 3 (oMv (i 0))]
 (S [m 1, q (oMul 3 M (L 0) (i 78913)), q (oShr 3 64 Z (L 0) (sC (.int 7 18))), p 3 (oMv (L 0))]
 R))
theorem eq_lf417 : lowAt 417 = some lf417 := by kernel_rfl
noncomputable def lf418 : LF := LF.mk [.tmp 3] (S [p 3 (oMv (i 0))]
 (Q (S [p 4 (oMv (t 1))]
 (C (t 4) (S [p 3 (oMv (i 1))]
 R)
 xSkip))
 (S [p 3 (oMv (i 0))]
 R)))
theorem eq_lf418 : lowAt 418 = some lf418 := by kernel_rfl
noncomputable def lf419 : LF := LF.mk [.tmp 3] (S [p 3 (oMv (sC (.bool false)))]
 (S [m 1, m 1, q (oSub 3 M (L 0) (i 1)), q (oAnd 3 (L 2) (L 0)), q (oEq (eqI 3) (L 0) (i 0)), p 3 (oMv (L 0))]
 R))
theorem eq_lf419 : lowAt 419 = some lf419 := by kernel_rfl
noncomputable def lf420 : LF := LF.mk [.tmp 3] (S [p 3 (oMv (i 0))]
 (Q (C (sC (.bool false)) (S [m 1, q (oToInt 6 4294967296 (L 0)), q (oCall 451 [(L 0)]), p 3 (oMv (L 0))]
 R)
 xSkip)
 (S [m 1, q (oCall 452 [(L 0)]), p 3 (oMv (L 0))]
 R)))
theorem eq_lf420 : lowAt 420 = some lf420 := by kernel_rfl
noncomputable def lf424 : LF := LF.mk [.tmp 5] (S [p 3 (oBox (t 1)), p 5 (oMv (sC .nils))]
 (Q (S [p 7 (oMv (t 2))]
 (xBlock 0 (xRf (t 7) 8 (O [p 6 (oMv (t 8))]) (xBlock 1 (O [q (oLoad1 (t 3)), m 6, q (oBuildSl 1 1 (.cons (.int 3 0) .nl) [(0, (L 0))]), q (oAppend 1 8 (L 2) (L 0)), q (oStore 1 (t 3) (L 0))])))))
 (S [q (oLoad1 (t 3)), p 5 (oMv (L 0))]
 R)))
theorem eq_lf424 : lowAt 424 = some lf424 := by kernel_rfl
noncomputable def lf427 : LF := LF.mk [.tmp 3] (S [p 3 (oMv (i 0))]
 (S [m 1, q (oNilck (L 0)), q (oFaddr 2 (L 0)), q (oLoad1 (L 0)), p 3 (oMv (L 0))]
 R))
theorem eq_lf427 : lowAt 427 = some lf427 := by kernel_rfl
noncomputable def lf428 : LF := LF.mk [.tmp 5, .tmp 6] (S [p 5 (oMv (i 0)), p 6 (oMv (sC (.bool false)))]
 (Q (xDr [D (m 2) 2 [], D (m 1) 2 [], D (q (oNilck (L 0))) 2 [], D (q (oFaddr 2 (L 0))) 2 [], D (q (oLoad1 (L 0))) 1 [], D (q (oSub 3 M (L 4) (L 0))) 2 [], D (m 2) 2 [], D (m 1) 2 [], D (q (oNilck (L 0))) 2 [], D (q (oFaddr 2 (L 0))) 2 [], D (q (oLoad1 (L 0))) 1 [], D (q (oLe 3 Z M (L 0) (L 4))) 2 [], D (w 0) 2 [], D (g 0 0 true (oMv (t 2))) 2 [], D (g 0 1 true (oMv (t 1))) 2 [], D (g 0 2 true (oNilck (L 0))) 2 [], D (g 0 3 true (oFaddr 2 (L 0))) 2 [], D (g 0 4 true (oLoad1 (L 0))) 1 [], D (g 0 5 true (oSub 3 M (L 4) (L 0))) 2 [], D (g 0 6 true (oMv (t 1))) 2 [], D (g 0 7 true (oNilck (L 0))) 2 [], D (g 0 8 true (oFaddr 3 (L 0))) 2 [], D (g 0 9 true (oLoad1 (L 0))) 1 [], D (g 0 10 true (oLt 3 Z M (L 4) (L 0))) 2 [], D (q (oPick (L 11) (L 0) (sC (.bool false)))) 2 [], D (p 5 (oMv (L 19))) 2 [], D (p 6 (oMv (L 1))) 2 []])
 R))
theorem eq_lf428 : lowAt 428 = some lf428 := by kernel_rfl
noncomputable def lf429 : LF := LF.mk [.tmp 7] (S [p 7 (oMv (sC .nili))]
 (Q (xDr [D (m 2) 2 [], D (m 3) 2 [], D (q (oQuo 3 Z (L 0) (i 8))) 2 [], D (q (oIaddr 1 (L 2) (L 0))) 2 [], D (q (oLoad1 (L 0))) 1 [], D (m 3) 2 [], D (q (oRem 3 Z (L 0) (i 8))) 2 [], D (q (oShl 4 8 256 (sC (.int 4 1)) (L 0))) 2 [], D (q (oXor 4 (L 3) (L 0))) 2 [], D (p 8 (oMv (L 0))) 2 []])
 (Q (xDr [D (m 1) 2 [], D (q (oNilck (L 0))) 2 [], D (q (oFaddr 0 (L 0))) 2 [], D (q (oLoad1 (L 0))) 1 [2], D (m 1) 2 [], D (q (oNilck (L 0))) 2 [], D (q (oFaddr 1 (L 0))) 2 [], D (q (oLoad1 (L 0))) 1 [2], D (m 3) 2 [], D (q (oQuo 3 Z (L 0) (i 1024))) 2 [], D (q (oAdd 3 M (L 2) (L 0))) 2 [], D (m 3) 2 [], D (q (oQuo 3 Z (L 0) (i 8))) 2 [], D (q (oRem 3 Z (L 0) (i 128))) 2 [], D (m 8) 2 [], D (q (oBuildBs 1 [(0, (L 0))])) 0 [], D (q (oCall 376 [(L 12), (L 5), (L 2), (L 0)])) 0 [], D (p 7 (oMv (L 0))) 2 []])
 R)))
theorem eq_lf429 : lowAt 429 = some lf429 := by kernel_rfl
noncomputable def lf441 : LF := LF.mk [] (S [p 11 (oMv (sC (.bool true)))]
 (S [p 12 (oMv (sC (.bool true)))]
 (xBlock 0 (xLoop (xBlock 1 (S [m 3, m 2, q (oSub 3 M (L 1) (L 0)), p 13 (oMv (L 0))]
 (Q (S [m 13, p 26 (oLe 3 Z M (L 0) (i 12))]
 (C (t 26) (S [m 1, m 2, m 3, m 5, q (oCall 467 [(L 3), (L 2), (L 1), (L 0)])]
 R)
 xSkip))
 (Q (S [m 4, p 33 (oEq (eqI 3) (L 0) (i 0))]
 (C (t 33) (S [m 1, m 2, m 3, m 5, q (oCall 468 [(L 3), (L 2), (L 1), (L 0)])]
 R)
 xSkip))
 (Q (S [m 11, p 40 (oNot (L 0))]
 (C (t 40) (S [m 1, m 2, m 3, m 5, q (oCall 469 [(L 3), (L 2), (L 1), (L 0)])]
 (O [m 4, q (oSub 3 M (L 0) (i 1)), p 4 (oMv (L 0))]))
 xSkip))
 (S [m 1, m 2, m 3, m 5, q (oCall 470 [(L 3), (L 2), (L 1), (L 0)]), w 0, q (oExt (L 0) 0), q (oExt (L 1) 1), p 14 (oMv (L 1)), p 15 (oMv (L 1))]
 (Q (S [m 15, p 57 (oEq (eqI 3) (L 0) (i 2))]
 (C (t 57) (S [m 1, m 2, m 3, m 5, q (oCall 471 [(L 3), (L 2), (L 1), (L 0)])]
 (S [m 3, q (oSub 3 M (L 0) (i 1)), m 14, m 2, q (oSub 3 M (L 1) (L 0)), q (oSub 3 M (L 3) (L 0)), p 14 (oMv (L 0))]
 (O [p 15 (oMv (i 1))])))
 xSkip))
 (Q (S [m 11, w 0, g 0 0 true (oMv (t 12)), q (oPick (L 1) (L 0) (sC (.bool false))), w 0, g 0 0 true (oMv (t 15)), g 0 1 true (oEq (eqI 3) (L 0) (i 1)), p 76 (oPick (L 2) (L 0) (sC (.bool false)))]
 (C (t 76) (S [m 1, m 2, m 3, m 5, p 81 (oCall 472 [(L 3), (L 2), (L 1), (L 0)])]
 (C (t 81) R
 xSkip))
 xSkip))
 (Q (Q (xDr [D (m 2) 2 [], D (q (oLt 3 Z M (i 0) (L 0))) 2 [], D (w 0) 2 [], D (g 0 0 true (oMv (t 5))) 2 [], D (g 0 1 true (oMv (t 1))) 2 [], D (g 0 2 true (oMv (t 2))) 2 [], D (g 0 3 true (oSub 3 M (L 0) (i 1))) 2 [], D (g 0 4 true (oIaddr 2 (L 2) (L 0))) 2 [], D (g 0 5 true (oLoadN 2 (L 0))) 1 [], D (g 0 6 true (oMv (t 1))) 2 [], D (g 0 7 true (oMv (t 14))) 2 [], D (g 0 8 true (oIaddr 2 (L 1) (L 0))) 2 [], D (g 0 9 true (oLoadN 2 (L 0))) 1 [], D (g 0 10 true (oCallV (L 9) [(L 4), (L 0)])) 0 [], D (g 0 11 true (oLt 3 Z M (L 0) (i 0))) 2 [], D (g 0 12 true (oNot (L 0))) 2 [], D (p 98 (oPick (L 13) (L 0) (sC (.bool false)))) 2 []])
 (C (t 98) (S [m 1, m 2, m 3, m 14, m 5, q (oCall 473 [(L 4), (L 3), (L 2), (L 1), (L 0)]), p 16 (oMv (L 0))]
 (S [m 16, p 2 (oMv (L 0))]
 (xExit 1)))
 xSkip))
 (S [m 1, m 2, m 3, m 14, m 5, q (oCall 474 [(L 4), (L 3), (L 2), (L 1), (L 0)]), w 0, q (oExt (L 0) 0), q (oExt (L 1) 1), p 17 (oMv (L 1)), p 18 (oMv (L 1))]
 (S [m 18, p 12 (oMv (L 0))]
 (S [m 17, m 2, q (oSub 3 M (L 1) (L 0)), m 3, m 17, q (oSub 3 M (L 1) (L 0)), p 19 (oMv (L 3)), p 20 (oMv (L 1))]
 (S [m 13, q (oQuo 3 Z (L 0) (i 8)), p 21 (oMv (L 0))]
 (S [m 19, m 20, p 126 (oLt 3 Z M (L 1) (L 0))]
 (C (t 126) (S [m 19, m 21, q (oLe 3 Z M (L 0) (L 1)), p 11 (oMv (L 0))]
 (S [m 1, m 2, m 17, m 4, m 5, q (oCall 441 [(L 4), (L 3), (L 2), (L 1), (L 0)])]
 (O [m 17, q (oAdd 3 M (L 0) (i 1)), p 2 (oMv (L 0))])))
 (S [m 20, m 21, q (oLe 3 Z M (L 0) (L 1)), p 11 (oMv (L 0))]
 (S [m 1, m 17, q (oAdd 3 M (L 0) (i 1)), m 3, m 4, m 5, q (oCall 441 [(L 5), (L 3), (L 2), (L 1), (L 0)])]
 (O [m 17, p 3 (oMv (L 0))]))))))))))))))))))))))
theorem eq_lf441 : lowAt 441 = some lf441 := by kernel_rfl
noncomputable def lf449 : LF := LF.mk [.tmp 3, .tmp 4] (S [p 3 (oMv (sC .nils)), p 4 (oMv (sC .nili))]
 (Q (xDr [D (m 1) 2 [], D (q (oNilck (L 0))) 2 [], D (q (oFaddr 0 (L 0))) 2 [], D (q (oLoad1 (L 0))) 1 [], D (m 1) 2 [], D (q (oNilck (L 0))) 2 [], D (q (oFaddr 1 (L 0))) 2 [], D (q (oLoad1 (L 0))) 1 [], D (q (oCall 375 [(L 4), (L 0)])) 0 [], D (w 0) 2 [], D (q (oExt (L 0) 0)) 2 [], D (q (oExt (L 1) 1)) 2 [], D (p 5 (oMv (L 1))) 2 [], D (p 6 (oMv (L 1))) 2 []])
 (Q (S [m 6, p 29 (oNeN (L 0))]
 (C (t 29) (S [m 6, p 3 (oMv (sC .nils)), p 4 (oMv (L 1))]
 R)
 xSkip))
 (S [m 5, q (oSlice 1 (L 0) (some (i 8)) none none), q (oCall 476 [(L 0)]), p 7 (oMv (L 0))]
 (Q (S [m 5, q (oSlice 1 (L 0) none (some (i 8)) none), q (oBsToStr (L 0)), q (oNe eqS (L 0) (s 8 7165901438972754529)), w 0, g 0 0 false (oMv (t 7)), g 0 1 false (oLt 7 0 M (L 0) (sC (.int 7 1))), q (oPick (L 2) (sC (.bool true)) (L 0)), w 0, g 0 0 false (oMv (t 7)), g 0 1 false (oMv (t 1)), g 0 2 false (oNilck (L 0)), g 0 3 false (oFaddr 2 (L 0)), g 0 4 false (oLoad1 (L 0)), g 0 5 false (oToInt 7 M (L 0)), g 0 6 false (oLt 7 0 M (L 0) (L 5)), p 50 (oPick (L 7) (sC (.bool true)) (L 0))]
 (C (t 50) (S [p 3 (oMv (sC .nils)), p 4 (oMv (sC .nili))]
 R)
 xSkip))
 (S [p 8 (oMv (sC .nils))]
 (Q (S [m 7, q (oToInt 3 M (L 0)), q (oCall 477 [(L 0)]), m 7, q (oToInt 3 M (L 0)), p 56 (oAdd 3 M (L 2) (L 0)), p 57 (oMv (i 0))]
 (xBlock 0 (xLoop (S [p 58 (oLt 3 Z M (t 57) (t 56))]
 (Q (C (t 58) xSkip
 (xExit 0))
 (Q (xBlock 1 (S [m 57, p 9 (oMv (L 0))]
 (Q (xDr [D (m 1) 2 [], D (q (oNilck (L 0))) 2 [], D (q (oFaddr 0 (L 0))) 2 [], D (q (oLoad1 (L 0))) 1 [], D (m 1) 2 [], D (q (oNilck (L 0))) 2 [], D (q (oFaddr 1 (L 0))) 2 [], D (q (oLoad1 (L 0))) 1 [], D (q (oAdd 3 M (L 0) (i 1))) 2 [], D (m 9) 2 [], D (q (oAdd 3 M (L 1) (L 0))) 2 [], D (q (oCall 375 [(L 7), (L 0)])) 0 [], D (w 0) 2 [], D (q (oExt (L 0) 0)) 2 [], D (q (oExt (L 1) 1)) 2 [], D (p 10 (oMv (L 1))) 2 [], D (p 11 (oMv (L 1))) 2 []])
 (Q (S [m 11, p 76 (oNeN (L 0))]
 (C (t 76) (S [m 11, p 3 (oMv (sC .nils)), p 4 (oMv (L 1))]
 R)
 xSkip))
 (O [m 8, m 10, q (oBuildSl 1 1 (.cons .nils .nl) [(0, (L 0))]), q (oAppend 1 24 (L 2) (L 0)), p 8 (oMv (L 0))])))))
 (O [q (oAdd 3 M (t 57) (i 1)), p 57 (oMv (L 0))])))))))
 (Q (S [m 5, m 7, q (oToInt 3 M (L 0)), m 8, q (oCall 292 [(L 1), (L 0)]), q (oCall 478 [(L 4), (L 0)]), p 89 (oNot (L 0))]
 (C (t 89) (S [p 3 (oMv (sC .nils)), p 4 (oMv (sC .nili))]
 R)
 xSkip))
 (S [p 12 (oMv (sC .nils))]
 (Q (S [m 8, m 7, q (oToInt 3 M (L 0)), q (oCall 477 [(L 0)]), p 94 (oSlice 1 (L 3) (some (L 0)) none none), p 95 (oLenSl (L 0)), p 96 (oMv (i 0))]
 (xBlock 2 (xLoop (S [p 97 (oLt 3 Z M (t 96) (t 95))]
 (Q (C (t 97) xSkip
 (xExit 2))
 (Q (xBlock 3 (S [m 96, q (oIaddr 1 (t 94) (t 96)), q (oLoad1 (L 0)), p 13 (oMv (L 2)), p 14 (oMv (L 1))]
 (S [m 8, m 13, q (oQuo 3 Z (L 0) (i 16)), q (oIaddr 1 (L 2) (L 0)), q (oLoad1 (L 0)), m 13, q (oRem 3 Z (L 0) (i 16)), q (oMul 3 M (L 0) (i 8)), q (oSlice 1 (L 3) (some (L 0)) none none), q (oCall 476 [(L 0)]), p 15 (oMv (L 0))]
 (O [m 12, m 15, q (oToInt 3 M (L 0)), m 14, q (oBuild (.cons (.int 3 0) (.cons .nils .nl)) [(0, 1, (L 1)), (1, 1, (L 0))]), q (oBuildSl 1 2 (.cons (.int 3 0) (.cons .nils .nl)) [(0, (L 0))]), q (oAppend 2 32 (L 5) (L 0)), p 12 (oMv (L 0))]))))
 (O [q (oAdd 3 M (t 96) (i 1)), p 96 (oMv (L 0))])))))))
 (Q (S [m 1, m 12, q (oCall 288 [(L 1), (L 0)]), p 122 (oNot (L 0))]
 (C (t 122) (S [p 3 (oMv (sC .nils)), p 4 (oMv (sC .nili))]
 R)
 xSkip))
 (S [m 12, p 3 (oMv (L 0)), p 4 (oMv (sC .nili))]
 R))))))))))))
theorem eq_lf449 : lowAt 449 = some lf449 := by kernel_rfl
noncomputable def lf452 : LF := LF.mk [.tmp 3] (S [p 3 (oMv (i 0))]
 (Q (S [m 1, p 5 (oEq (eqI 7) (L 0) (sC (.int 7 0)))]
 (C (t 5) (S [p 3 (oMv (i 64))]
 R)
 xSkip))
 (S [m 1, m 1, q (oNeg 7 M (L 0)), q (oAnd 7 (L 2) (L 0)), q (oMul 7 M (L 0) (sC (.int 7 285870213051353865))), q (oShr 7 64 M (L 0) (sC (.int 7 58))), q (oIaddrA 64 1 (sC (.ptr 8 0)) (L 0)), q (oLoad1 (L 0)), q (oToInt 3 M (L 0)), p 3 (oMv (L 0))]
 R)))
theorem eq_lf452 : lowAt 452 = some lf452 := by kernel_rfl
noncomputable def lf467 : LF := LF.mk [] (S [m 2, q (oAdd 3 M (L 0) (i 1)), p 9 (oMv (L 0))]
 (xBlock 0 (xLoop (Q (S [m 9, m 3, p 15 (oLt 3 Z M (L 1) (L 0))]
 (C (t 15) xSkip
 (xExit 0)))
 (Q (xBlock 1 (S [m 9, p 10 (oMv (L 0))]
 (xBlock 2 (xLoop (Q (Q (xDr [D (m 10) 2 [], D (m 2) 2 [], D (q (oLt 3 Z M (L 0) (L 1))) 2 [], D (w 0) 2 [], D (g 0 0 true (oMv (t 4))) 2 [], D (g 0 1 true (oMv (t 1))) 2 [], D (g 0 2 true (oMv (t 10))) 2 [], D (g 0 3 true (oIaddr 2 (L 1) (L 0))) 2 [], D (g 0 4 true (oLoadN 2 (L 0))) 1 [], D (g 0 5 true (oMv (t 1))) 2 [], D (g 0 6 true (oMv (t 10))) 2 [], D (g 0 7 true (oSub 3 M (L 0) (i 1))) 2 [], D (g 0 8 true (oIaddr 2 (L 2) (L 0))) 2 [], D (g 0 9 true (oLoadN 2 (L 0))) 1 [], D (g 0 10 true (oCallV (L 9) [(L 5), (L 0)])) 0 [], D (g 0 11 true (oLt 3 Z M (L 0) (i 0))) 2 [], D (p 35 (oPick (L 12) (L 0) (sC (.bool false)))) 2 []])
 (C (t 35) xSkip
 (xExit 2)))
 (Q (xBlock 3 (xDr [D (m 1) 2 [], D (m 10) 2 [], D (m 1) 2 [], D (m 10) 2 [], D (q (oSub 3 M (L 0) (i 1))) 2 [], D (m 1) 2 [], D (m 10) 2 [], D (q (oSub 3 M (L 0) (i 1))) 2 [], D (q (oIaddr 2 (L 2) (L 0))) 2 [], D (q (oLoadN 2 (L 0))) 1 [], D (m 1) 2 [], D (m 10) 2 [], D (q (oIaddr 2 (L 1) (L 0))) 2 [], D (q (oLoadN 2 (L 0))) 1 [], D (q (oIaddr 2 (L 13) (L 12))) 2 [], D (q (oStore 2 (L 0) (L 5))) 0 [], D (q (oIaddr 2 (L 13) (L 11))) 2 [], D (q (oStore 2 (L 0) (L 3))) 0 []]))
 (O [m 10, q (oSub 3 M (L 0) (i 1)), p 10 (oMv (L 0))])))))))
 (O [m 9, q (oAdd 3 M (L 0) (i 1)), p 9 (oMv (L 0))]))))))
theorem eq_lf467 : lowAt 467 = some lf467 := by kernel_rfl
noncomputable def lf476 : LF := LF.mk [.tmp 3] (S [p 3 (oMv (sC (.int 7 0)))]
 (S [p 4 (oMv (sC (.int 7 0)))]
 (Q (S [p 6 (oMv (i 0))]
 (xBlock 0 (xLoop (S [p 7 (oLt 3 Z M (t 6) (i 8))]
 (Q (C (t 7) xSkip
 (xExit 0))
 (Q (xBlock 1 (S [m 6, p 5 (oMv (L 0))]
 (O [m 4, m 1, m 5, q (oIaddr 1 (L 1) (L 0)), q (oLoad1 (L 0)), q (oToInt 7 M (L 0)), m 5, q (oMul 3 M (i 8) (L 0)), q (oShl 7 64 M (L 2) (L 0)), q (oOr 7 (L 8) (L 0)), p 4 (oMv (L 0))])))
 (O [q (oAdd 3 M (t 6) (i 1)), p 6 (oMv (L 0))])))))))
 (S [m 4, p 3 (oMv (L 0))]
 R))))
theorem eq_lf476 : lowAt 476 = some lf476 := by kernel_rfl
noncomputable def lf511 : LF := LF.mk [.tmp 3] (S [p 3 (oMv (sC .nili))]
 (Q (S [m 1, p 5 (oEq eqP2 (L 0) (sC .nilp))]
 (C (t 5) (S [p 3 (oMv (sC .nili))]
 R)
 xSkip))
 (S [m 1, q (oNilck (L 0)), q (oFaddr 2 (L 0)), q (oLoad1 (L 0)), p 3 (oMv (L 0))]
 R)))
theorem eq_lf511 : lowAt 511 = some lf511 := by kernel_rfl
noncomputable def lg312 : LG := LG.mk true (gSeq (gOps [(.pl ⟨5, none, oMv (sC (.int 3 0))⟩)])
 (gBlock 0 (gLoop (gSeq (gSeq (gOps [(.pl ⟨0, none, oMv (sT 5)⟩), (.pl ⟨0, none, oLoad1 (sT 2)⟩), (.pl ⟨0, none, oLenSl (sL 0)⟩), (.pl ⟨10, none, oLt 3 9223372036854775808 18446744073709551616 (sL 2) (sL 0)⟩)])
 (gCond (sT 10) (gX xSkip)
 (gX (xExit 0))))
 (gSeq (gBlock 1 (gSeq (gX (xDr [⟨⟨0, none, oLoad1 (sT 3)⟩, 1, []⟩, ⟨⟨0, none, oLoad1 (sT 2)⟩, 1, []⟩, ⟨⟨0, none, oMv (sT 5)⟩, 2, []⟩, ⟨⟨0, none, oSlice 1 (sL 1) (some (sL 0)) none none⟩, 1, []⟩, ⟨⟨0, none, oLenSl (sL 0)⟩, 2, []⟩, ⟨⟨0, none, oMin 3 9223372036854775808 18446744073709551616 (sL 4) (sL 0)⟩, 2, []⟩, ⟨⟨6, none, oMv (sL 0)⟩, 2, []⟩]))
 (gSeq (gOps [(.pl ⟨0, none, oMv (sT 1)⟩), (.pl ⟨0, none, oLoad1 (sT 2)⟩), (.pl ⟨0, none, oMv (sT 5)⟩), (.pl ⟨0, none, oMv (sT 5)⟩), (.pl ⟨0, none, oMv (sT 6)⟩), (.pl ⟨0, none, oAdd 3 18446744073709551616 (sL 1) (sL 0)⟩), (.pl ⟨0, none, oMv (sT 5)⟩), (.pl ⟨0, none, oMv (sT 6)⟩), (.pl ⟨0, none, oAdd 3 18446744073709551616 (sL 1) (sL 0)⟩), (.pl ⟨0, none, oSlice 1 (sL 7) (some (sL 6)) (some (sL 3)) (some (sL 0))⟩), (.yl 0 none (sL 9) [(sL 0)]), (.pl ⟨31, none, oNot (sL 0)⟩)])
 (gCond (sT 31) (gX xRet)
 (gX xSkip)))))
 (gOps [(.pl ⟨0, none, oMv (sT 5)⟩), (.pl ⟨0, none, oLoad1 (sT 3)⟩), (.pl ⟨0, none, oAdd 3 18446744073709551616 (sL 1) (sL 0)⟩), (.pl ⟨5, none, oMv (sL 0)⟩)]))))))
theorem eq_lg312 : lowGAt 312 = some lg312 := by kernel_rfl
noncomputable def lg397 : LG := LG.mk true (gSeq (gSeq (gOps [(.pl ⟨0, none, oLoad1 (sT 2)⟩), (.pl ⟨0, none, oLenS (sL 0)⟩), (.pl ⟨12, none, oEq (eqI 3) (sL 0) (sC (.int 3 0))⟩)])
 (gCond (sT 12) (gSeq (gBlock 0 (gLoop (gSeq (gSeq (gOps [(.pl ⟨0, none, oLoad1 (sT 3)⟩), (.pl ⟨0, none, oLenS (sL 0)⟩), (.pl ⟨15, none, oLt 3 9223372036854775808 18446744073709551616 (sC (.int 3 0)) (sL 0)⟩)])
 (gCond (sT 15) (gX xSkip)
 (gX (xExit 0))))
 (gBlock 1 (gSeq (gOps [(.pl ⟨0, none, oLoad1 (sT 3)⟩), (.pl ⟨0, none, oCall 362 [(sL 0)]⟩), (.pl ⟨0, none, oMv (sL 0)⟩), (.pl ⟨0, none, oExt (sL 0) 0⟩), (.pl ⟨0, none, oExt (sL 1) 1⟩), (.pl ⟨0, none, oMv (sL 1)⟩), (.pl ⟨7, none, oMv (sL 1)⟩)])
 (gSeq (gSeq (gOps [(.pl ⟨0, none, oMv (sT 1)⟩), (.pl ⟨0, none, oLoad1 (sT 3)⟩), (.pl ⟨0, none, oMv (sT 7)⟩), (.pl ⟨0, none, oSliceS (sL 1) none (some (sL 0))⟩), (.yl 0 none (sL 3) [(sL 0)]), (.pl ⟨26, none, oNot (sL 0)⟩)])
 (gCond (sT 26) (gX xRet)
 (gX xSkip)))
 (gOps [(.pl ⟨0, none, oLoad1 (sT 3)⟩), (.pl ⟨0, none, oMv (sT 7)⟩), (.pl ⟨0, none, oSliceS (sL 1) (some (sL 0)) none⟩), (.pl ⟨0, none, oStore 1 (sT 3) (sL 0)⟩)])))))))
 (gX xRet))
 (gX xSkip)))
 (gSeq (gBlock 2 (gLoop (gBlock 3 (gSeq (gOps [(.pl ⟨0, none, oLoad1 (sT 3)⟩), (.pl ⟨0, none, oLoad1 (sT 2)⟩), (.pl ⟨0, none, oCall 384 [(sL 1), (sL 0)]⟩), (.pl ⟨8, none, oMv (sL 0)⟩)])
 (gSeq (gSeq (gOps [(.pl ⟨0, none, oMv (sT 8)⟩), (.pl ⟨34, none, oLt 3 9223372036854775808 18446744073709551616 (sL 0) (sC (.int 3 0))⟩)])
 (gCond (sT 34) (gX (xExit 2))
 (gX xSkip)))
 (gSeq (gOps [(.pl ⟨0, none, oLoad1 (sT 3)⟩), (.pl ⟨0, none, oMv (sT 8)⟩), (.pl ⟨0, none, oLoad1 (sT 4)⟩), (.pl ⟨0, none, oAdd 3 18446744073709551616 (sL 1) (sL 0)⟩), (.pl ⟨0, none, oSliceS (sL 3) none (some (sL 0))⟩), (.pl ⟨9, none, oMv (sL 0)⟩)])
 (gSeq (gSeq (gOps [(.pl ⟨0, none, oMv (sT 1)⟩), (.pl ⟨0, none, oMv (sT 9)⟩), (.yl 0 none (sL 1) [(sL 0)]), (.pl ⟨43, none, oNot (sL 0)⟩)])
 (gCond (sT 43) (gX xRet)
 (gX xSkip)))
 (gOps [(.pl ⟨0, none, oLoad1 (sT 3)⟩), (.pl ⟨0, none, oMv (sT 8)⟩), (.pl ⟨0, none, oLoad1 (sT 2)⟩), (.pl ⟨0, none, oLenS (sL 0)⟩), (.pl ⟨0, none, oAdd 3 18446744073709551616 (sL 2) (sL 0)⟩), (.pl ⟨0, none, oSliceS (sL 4) (some (sL 0)) none⟩), (.pl ⟨0, none, oStore 1 (sT 3) (sL 0)⟩)]))))))))
 (gOps [(.pl ⟨0, none, oMv (sT 1)⟩), (.pl ⟨0, none, oLoad1 (sT 3)⟩), (.yl 0 none (sL 1) [(sL 0)])])))
theorem eq_lg397 : lowGAt 397 = some lg397 := by kernel_rfl
noncomputable def lg426 : LG := LG.mk true (gSeq (gOps [(.pl ⟨5, none, oMv (sC (.int 3 0))⟩)])
 (gBlock 0 (gLoop (gSeq (gSeq (gOps [(.pl ⟨0, none, oMv (sT 5)⟩), (.pl ⟨0, none, oLoad1 (sT 2)⟩), (.pl ⟨0, none, oLenSl (sL 0)⟩), (.pl ⟨10, none, oLt 3 9223372036854775808 18446744073709551616 (sL 2) (sL 0)⟩)])
 (gCond (sT 10) (gX xSkip)
 (gX (xExit 0))))
 (gSeq (gBlock 1 (gSeq (gX (xDr [⟨⟨0, none, oLoad1 (sT 3)⟩, 1, []⟩, ⟨⟨0, none, oLoad1 (sT 2)⟩, 1, []⟩, ⟨⟨0, none, oMv (sT 5)⟩, 2, []⟩, ⟨⟨0, none, oSlice 2 (sL 1) (some (sL 0)) none none⟩, 1, []⟩, ⟨⟨0, none, oLenSl (sL 0)⟩, 2, []⟩, ⟨⟨0, none, oMin 3 9223372036854775808 18446744073709551616 (sL 4) (sL 0)⟩, 2, []⟩, ⟨⟨6, none, oMv (sL 0)⟩, 2, []⟩]))
 (gSeq (gOps [(.pl ⟨0, none, oMv (sT 1)⟩), (.pl ⟨0, none, oLoad1 (sT 2)⟩), (.pl ⟨0, none, oMv (sT 5)⟩), (.pl ⟨0, none, oMv (sT 5)⟩), (.pl ⟨0, none, oMv (sT 6)⟩), (.pl ⟨0, none, oAdd 3 18446744073709551616 (sL 1) (sL 0)⟩), (.pl ⟨0, none, oMv (sT 5)⟩), (.pl ⟨0, none, oMv (sT 6)⟩), (.pl ⟨0, none, oAdd 3 18446744073709551616 (sL 1) (sL 0)⟩), (.pl ⟨0, none, oSlice 2 (sL 7) (some (sL 6)) (some (sL 3)) (some (sL 0))⟩), (.yl 0 none (sL 9) [(sL 0)]), (.pl ⟨31, none, oNot (sL 0)⟩)])
 (gCond (sT 31) (gX xRet)
 (gX xSkip)))))
 (gOps [(.pl ⟨0, none, oMv (sT 5)⟩), (.pl ⟨0, none, oLoad1 (sT 3)⟩), (.pl ⟨0, none, oAdd 3 18446744073709551616 (sL 1) (sL 0)⟩), (.pl ⟨5, none, oMv (sL 0)⟩)]))))))
theorem eq_lg426 : lowGAt 426 = some lg426 := by kernel_rfl
noncomputable def codeL : List (Nat × LF) := [(4, lf4), (9, lf9), (12, lf12), (13, lf13), (14, lf14), (15, lf15), (16, lf16), (17, lf17), (18, lf18), (19, lf19), (21, lf21), (23, lf23), (24, lf24), (25, lf25), (26, lf26), (27, lf27), (33, lf33), (34, lf34), (36, lf36), (37, lf37), (38, lf38), (39, lf39), (40, lf40), (41, lf41), (42, lf42), (43, lf43), (44, lf44), (45, lf45), (46, lf46), (47, lf47), (48, lf48), (49, lf49), (50, lf50), (51, lf51), (52, lf52), (53, lf53), (54, lf54), (55, lf55), (56, lf56), (57, lf57), (58, lf58), (59, lf59), (60, lf60), (61, lf61), (64, lf64), (65, lf65), (67, lf67), (68, lf68), (69, lf69), (70, lf70), (71, lf71), (72, lf72), (73, lf73), (74, lf74), (75, lf75), (76, lf76), (77, lf77), (81, lf81), (82, lf82), (83, lf83), (84, lf84), (85, lf85), (86, lf86), (87, lf87), (88, lf88), (89, lf89), (90, lf90), (91, lf91), (92, lf92), (93, lf93), (94, lf94), (95, lf95), (96, lf96), (97, lf97), (98, lf98), (99, lf99), (100, lf100), (101, lf101), (102, lf102), (106, lf106), (108, lf108), (109, lf109), (110, lf110), (111, lf111), (112, lf112), (113, lf113), (114, lf114), (115, lf115), (117, lf117), (118, lf118), (119, lf119), (120, lf120), (121, lf121), (122, lf122), (123, lf123), (124, lf124), (125, lf125), (126, lf126), (127, lf127), (128, lf128), (129, lf129), (130, lf130), (131, lf131), (133, lf133), (134, lf134), (135, lf135), (136, lf136), (137, lf137), (138, lf138), (139, lf139), (140, lf140), (141, lf141), (142, lf142), (143, lf143), (144, lf144), (145, lf145), (146, lf146), (147, lf147), (148, lf148), (149, lf149), (150, lf150), (151, lf151), (154, lf154), (155, lf155), (156, lf156), (157, lf157), (162, lf162), (163, lf163), (164, lf164), (165, lf165), (166, lf166), (167, lf167), (168, lf168), (169, lf169), (170, lf170), (171, lf171), (172, lf172), (173, lf173), (174, lf174), (175, lf175), (176, lf176), (177, lf177), (178, lf178), (179, lf179), (180, lf180), (181, lf181), (182, lf182), (183, lf183), (184, lf184), (185, lf185), (186, lf186), (187, lf187), (191, lf191), (192, lf192), (193, lf193), (194, lf194), (195, lf195), (196, lf196), (197, lf197), (198, lf198), (199, lf199), (200, lf200), (201, lf201), (202, lf202), (203, lf203), (204, lf204), (205, lf205), (206, lf206), (207, lf207), (208, lf208), (209, lf209), (210, lf210), (212, lf212), (213, lf213), (214, lf214), (215, lf215), (216, lf216), (217, lf217), (218, lf218), (220, lf220), (221, lf221), (222, lf222), (223, lf223), (224, lf224), (225, lf225), (227, lf227), (228, lf228), (229, lf229), (230, lf230), (231, lf231), (232, lf232), (233, lf233), (234, lf234), (235, lf235), (236, lf236), (237, lf237), (238, lf238), (239, lf239), (240, lf240), (241, lf241), (242, lf242), (243, lf243), (244, lf244), (245, lf245), (246, lf246), (247, lf247), (248, lf248), (252, lf252), (255, lf255), (256, lf256), (257, lf257), (258, lf258), (259, lf259), (260, lf260), (261, lf261), (262, lf262), (263, lf263), (264, lf264), (265, lf265), (266, lf266), (267, lf267), (268, lf268), (269, lf269), (270, lf270), (278, lf278), (279, lf279), (280, lf280), (281, lf281), (282, lf282), (283, lf283), (284, lf284), (285, lf285), (286, lf286), (287, lf287), (288, lf288), (290, lf290), (291, lf291), (292, lf292), (293, lf293), (294, lf294), (296, lf296), (297, lf297), (298, lf298), (299, lf299), (300, lf300), (301, lf301), (302, lf302), (303, lf303), (304, lf304), (305, lf305), (306, lf306), (307, lf307), (308, lf308), (309, lf309), (310, lf310), (311, lf311), (313, lf313), (322, lf322), (324, lf324), (325, lf325), (326, lf326), (327, lf327), (328, lf328), (329, lf329), (330, lf330), (331, lf331), (332, lf332), (333, lf333), (334, lf334), (335, lf335), (336, lf336), (342, lf342), (344, lf344), (345, lf345), (346, lf346), (347, lf347), (348, lf348), (349, lf349), (350, lf350), (351, lf351), (352, lf352), (353, lf353), (354, lf354), (357, lf357), (358, lf358), (359, lf359), (360, lf360), (362, lf362), (366, lf366), (367, lf367), (368, lf368), (369, lf369), (372, lf372), (373, lf373), (374, lf374), (375, lf375), (376, lf376), (377, lf377), (378, lf378), (379, lf379), (380, lf380), (381, lf381), (383, lf383), (384, lf384), (390, lf390), (391, lf391), (393, lf393), (394, lf394), (396, lf396), (412, lf412), (414, lf414), (417, lf417), (418, lf418), (419, lf419), (420, lf420), (424, lf424), (427, lf427), (428, lf428), (429, lf429), (441, lf441), (449, lf449), (452, lf452), (467, lf467), (476, lf476), (511, lf511)]
end Go.Proofs
