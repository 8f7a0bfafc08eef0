/- A part of the proof of ShelfTidies: the program run by the evaluator. No condition. -/
import Derived.Test.YtidmnoafhdhhlaaGreatDoorVTR0
import Derived.Test.YtidmnoafhdhhlaaGreatDoorVTR1
import Derived.Test.YtidmnoafhdhhlaaGreatDoorVTR2
import Derived.Test.YtidmnoafhdhhlaaGreatDoorVTR3
import Derived.Test.YtidmnoafhdhhlaaGreatDoorVTR4
import Derived.Test.YtidmnoafhdhhlaaGreatDoorVTR5
import Derived.Test.YtidmnoafhdhhlaaGreatDoorVTR6
import Derived.Test.YtidmnoafhdhhlaaGreatDoorVTR7
import Derived.Test.YtidmnoafhdhhlaaGreatDoorVTR8
import Derived.Test.YtidmnoafhdhhlaaGreatDoorVTR9
import Derived.Test.YtidmnoafhdhhlaaGreatDoorVTR10
import Derived.Test.YtidmnoafhdhhlaaGreatDoorVTR11
set_option linter.all false
namespace Go.Proofs.Aud
noncomputable section
open Go Go.VE
set_option maxRecDepth 100000
theorem m0_ok (args : List AV) (h : H) (n : Nat) (k : K) (rr : RR) (e : iMemo m0 args h n k = rr) (hne : rr ≠ .fail) : CallLaw Tryz.prog 33 args h n k rr := memo_ok ex0_ok m0_good m0_run args h n k rr e hne
theorem m1_ok (args : List AV) (h : H) (n : Nat) (k : K) (rr : RR) (e : iMemo m1 args h n k = rr) (hne : rr ≠ .fail) : CallLaw Tryz.prog 60 args h n k rr := memo_ok ex0_ok m1_good m1_run args h n k rr e hne
theorem m2_ok (args : List AV) (h : H) (n : Nat) (k : K) (rr : RR) (e : iMemo m2 args h n k = rr) (hne : rr ≠ .fail) : CallLaw Tryz.prog 60 args h n k rr := memo_ok ex0_ok m2_good m2_run args h n k rr e hne
theorem ex_m3_ok : ExOk ex_m3 := (exC_ok (orN_ok m1_ok m2_ok) ex0_ok)
theorem m3_ok (args : List AV) (h : H) (n : Nat) (k : K) (rr : RR) (e : iMemo m3 args h n k = rr) (hne : rr ≠ .fail) : CallLaw Tryz.prog 19 args h n k rr := memo_ok ex_m3_ok m3_good m3_run args h n k rr e hne
theorem ex_m4_ok : ExOk ex_m4 := (exC_ok m0_ok (exC_ok m3_ok ex0_ok))
theorem m4_ok (args : List AV) (h : H) (n : Nat) (k : K) (rr : RR) (e : iMemo m4 args h n k = rr) (hne : rr ≠ .fail) : CallLaw Tryz.prog 9 args h n k rr := memo_ok ex_m4_ok m4_good m4_run args h n k rr e hne
theorem m5_ok (args : List AV) (h : H) (n : Nat) (k : K) (rr : RR) (e : iMemo m5 args h n k = rr) (hne : rr ≠ .fail) : CallLaw Tryz.prog 15 args h n k rr := memo_ok ex0_ok m5_good m5_run args h n k rr e hne
theorem ex_m6_ok : ExOk ex_m6 := (exC_ok m5_ok ex0_ok)
theorem m6_ok (args : List AV) (h : H) (n : Nat) (k : K) (rr : RR) (e : iMemo m6 args h n k = rr) (hne : rr ≠ .fail) : CallLaw Tryz.prog 44 args h n k rr := memo_ok ex_m6_ok m6_good m6_run args h n k rr e hne
theorem m7_ok (args : List AV) (h : H) (n : Nat) (k : K) (rr : RR) (e : iMemo m7 args h n k = rr) (hne : rr ≠ .fail) : CallLaw Tryz.prog 16 args h n k rr := memo_ok ex0_ok m7_good m7_run args h n k rr e hne
theorem m8_ok (args : List AV) (h : H) (n : Nat) (k : K) (rr : RR) (e : iMemo m8 args h n k = rr) (hne : rr ≠ .fail) : CallLaw Tryz.prog 102 args h n k rr := memo_ok ex0_ok m8_good m8_run args h n k rr e hne
theorem m9_ok (args : List AV) (h : H) (n : Nat) (k : K) (rr : RR) (e : iMemo m9 args h n k = rr) (hne : rr ≠ .fail) : CallLaw Tryz.prog 16 args h n k rr := memo_ok ex0_ok m9_good m9_run args h n k rr e hne
theorem m10_ok (args : List AV) (h : H) (n : Nat) (k : K) (rr : RR) (e : iMemo m10 args h n k = rr) (hne : rr ≠ .fail) : CallLaw Tryz.prog 102 args h n k rr := memo_ok ex0_ok m10_good m10_run args h n k rr e hne
theorem ex_m11_ok : ExOk ex_m11 := (exC_ok (orN_ok m7_ok m9_ok) (exC_ok (orN_ok m8_ok m10_ok) ex0_ok))
theorem m11_ok (args : List AV) (h : H) (n : Nat) (k : K) (rr : RR) (e : iMemo m11 args h n k = rr) (hne : rr ≠ .fail) : CallLaw Tryz.prog 45 args h n k rr := memo_ok ex_m11_ok m11_good m11_run args h n k rr e hne
theorem ex_m12_ok : ExOk ex_m12 := (exC_ok m6_ok (exC_ok m11_ok ex0_ok))
theorem m12_ok (args : List AV) (h : H) (n : Nat) (k : K) (rr : RR) (e : iMemo m12 args h n k = rr) (hne : rr ≠ .fail) : CallLaw Tryz.prog 12 args h n k rr := memo_ok ex_m12_ok m12_good m12_run args h n k rr e hne
theorem m13_ok (args : List AV) (h : H) (n : Nat) (k : K) (rr : RR) (e : iMemo m13 args h n k = rr) (hne : rr ≠ .fail) : CallLaw Tryz.prog 15 args h n k rr := memo_ok ex0_ok m13_good m13_run args h n k rr e hne
theorem m14_ok (args : List AV) (h : H) (n : Nat) (k : K) (rr : RR) (e : iMemo m14 args h n k = rr) (hne : rr ≠ .fail) : CallLaw Tryz.prog 15 args h n k rr := memo_ok ex0_ok m14_good m14_run args h n k rr e hne
theorem m15_ok (args : List AV) (h : H) (n : Nat) (k : K) (rr : RR) (e : iMemo m15 args h n k = rr) (hne : rr ≠ .fail) : CallLaw Tryz.prog 33 args h n k rr := memo_ok ex0_ok m15_good m15_run args h n k rr e hne
theorem m16_ok (args : List AV) (h : H) (n : Nat) (k : K) (rr : RR) (e : iMemo m16 args h n k = rr) (hne : rr ≠ .fail) : CallLaw Tryz.prog 60 args h n k rr := memo_ok ex0_ok m16_good m16_run args h n k rr e hne
theorem m17_ok (args : List AV) (h : H) (n : Nat) (k : K) (rr : RR) (e : iMemo m17 args h n k = rr) (hne : rr ≠ .fail) : CallLaw Tryz.prog 60 args h n k rr := memo_ok ex0_ok m17_good m17_run args h n k rr e hne
theorem ex_m18_ok : ExOk ex_m18 := (exC_ok (orN_ok m16_ok m17_ok) ex0_ok)
theorem m18_ok (args : List AV) (h : H) (n : Nat) (k : K) (rr : RR) (e : iMemo m18 args h n k = rr) (hne : rr ≠ .fail) : CallLaw Tryz.prog 19 args h n k rr := memo_ok ex_m18_ok m18_good m18_run args h n k rr e hne
theorem ex_m19_ok : ExOk ex_m19 := (exC_ok m15_ok (exC_ok m18_ok ex0_ok))
theorem m19_ok (args : List AV) (h : H) (n : Nat) (k : K) (rr : RR) (e : iMemo m19 args h n k = rr) (hne : rr ≠ .fail) : CallLaw Tryz.prog 9 args h n k rr := memo_ok ex_m19_ok m19_good m19_run args h n k rr e hne
theorem m20_ok (args : List AV) (h : H) (n : Nat) (k : K) (rr : RR) (e : iMemo m20 args h n k = rr) (hne : rr ≠ .fail) : CallLaw Tryz.prog 15 args h n k rr := memo_ok ex0_ok m20_good m20_run args h n k rr e hne
theorem ex_m21_ok : ExOk ex_m21 := (exC_ok m20_ok ex0_ok)
theorem m21_ok (args : List AV) (h : H) (n : Nat) (k : K) (rr : RR) (e : iMemo m21 args h n k = rr) (hne : rr ≠ .fail) : CallLaw Tryz.prog 44 args h n k rr := memo_ok ex_m21_ok m21_good m21_run args h n k rr e hne
theorem m22_ok (args : List AV) (h : H) (n : Nat) (k : K) (rr : RR) (e : iMemo m22 args h n k = rr) (hne : rr ≠ .fail) : CallLaw Tryz.prog 16 args h n k rr := memo_ok ex0_ok m22_good m22_run args h n k rr e hne
theorem m23_ok (args : List AV) (h : H) (n : Nat) (k : K) (rr : RR) (e : iMemo m23 args h n k = rr) (hne : rr ≠ .fail) : CallLaw Tryz.prog 102 args h n k rr := memo_ok ex0_ok m23_good m23_run args h n k rr e hne
theorem m24_ok (args : List AV) (h : H) (n : Nat) (k : K) (rr : RR) (e : iMemo m24 args h n k = rr) (hne : rr ≠ .fail) : CallLaw Tryz.prog 16 args h n k rr := memo_ok ex0_ok m24_good m24_run args h n k rr e hne
theorem m25_ok (args : List AV) (h : H) (n : Nat) (k : K) (rr : RR) (e : iMemo m25 args h n k = rr) (hne : rr ≠ .fail) : CallLaw Tryz.prog 102 args h n k rr := memo_ok ex0_ok m25_good m25_run args h n k rr e hne
theorem ex_m26_ok : ExOk ex_m26 := (exC_ok (orN_ok m22_ok m24_ok) (exC_ok (orN_ok m23_ok m25_ok) ex0_ok))
theorem m26_ok (args : List AV) (h : H) (n : Nat) (k : K) (rr : RR) (e : iMemo m26 args h n k = rr) (hne : rr ≠ .fail) : CallLaw Tryz.prog 45 args h n k rr := memo_ok ex_m26_ok m26_good m26_run args h n k rr e hne
theorem ex_m27_ok : ExOk ex_m27 := (exC_ok m21_ok (exC_ok m26_ok ex0_ok))
theorem m27_ok (args : List AV) (h : H) (n : Nat) (k : K) (rr : RR) (e : iMemo m27 args h n k = rr) (hne : rr ≠ .fail) : CallLaw Tryz.prog 12 args h n k rr := memo_ok ex_m27_ok m27_good m27_run args h n k rr e hne
theorem m28_ok (args : List AV) (h : H) (n : Nat) (k : K) (rr : RR) (e : iMemo m28 args h n k = rr) (hne : rr ≠ .fail) : CallLaw Tryz.prog 102 args h n k rr := memo_ok ex0_ok m28_good m28_run args h n k rr e hne
theorem m29_ok (args : List AV) (h : H) (n : Nat) (k : K) (rr : RR) (e : iMemo m29 args h n k = rr) (hne : rr ≠ .fail) : CallLaw Tryz.prog 252 args h n k rr := memo_ok ex0_ok m29_good m29_run args h n k rr e hne
theorem ex_m30_ok : ExOk ex_m30 := (exC_ok m28_ok (exC_ok m29_ok ex0_ok))
theorem m30_ok (args : List AV) (h : H) (n : Nat) (k : K) (rr : RR) (e : iMemo m30 args h n k = rr) (hne : rr ≠ .fail) : CallLaw Tryz.prog 27 args h n k rr := memo_ok ex_m30_ok m30_good m30_run args h n k rr e hne
theorem m31_ok (args : List AV) (h : H) (n : Nat) (k : K) (rr : RR) (e : iMemo m31 args h n k = rr) (hne : rr ≠ .fail) : CallLaw Tryz.prog 102 args h n k rr := memo_ok ex0_ok m31_good m31_run args h n k rr e hne
theorem ex_m32_ok : ExOk ex_m32 := (exC_ok m31_ok ex0_ok)
theorem m32_ok (args : List AV) (h : H) (n : Nat) (k : K) (rr : RR) (e : iMemo m32 args h n k = rr) (hne : rr ≠ .fail) : CallLaw Tryz.prog 26 args h n k rr := memo_ok ex_m32_ok m32_good m32_run args h n k rr e hne
theorem ex_m33_ok : ExOk ex_m33 := (exC_ok m19_ok (exC_ok (orN_ok m27_ok (fun args h n k rr e hne => run_ok ex0_ok 500 12 args h n k rr e hne)) (exC_ok m30_ok (exC_ok m32_ok ex0_ok))))
theorem m33_ok (args : List AV) (h : H) (n : Nat) (k : K) (rr : RR) (e : iMemo m33 args h n k = rr) (hne : rr ≠ .fail) : CallLaw Tryz.prog 14 args h n k rr := memo_ok ex_m33_ok m33_good m33_run args h n k rr e hne
theorem m34_ok (args : List AV) (h : H) (n : Nat) (k : K) (rr : RR) (e : iMemo m34 args h n k = rr) (hne : rr ≠ .fail) : CallLaw Tryz.prog 16 args h n k rr := memo_ok ex0_ok m34_good m34_run args h n k rr e hne
theorem m35_ok (args : List AV) (h : H) (n : Nat) (k : K) (rr : RR) (e : iMemo m35 args h n k = rr) (hne : rr ≠ .fail) : CallLaw Tryz.prog 55 args h n k rr := memo_ok ex0_ok m35_good m35_run args h n k rr e hne
theorem ex_m36_ok : ExOk ex_m36 := (exC_ok (orN_ok m35_ok (fun args h n k rr e hne => run_ok ex0_ok 500 55 args h n k rr e hne)) ex0_ok)
theorem m36_ok (args : List AV) (h : H) (n : Nat) (k : K) (rr : RR) (e : iMemo m36 args h n k = rr) (hne : rr ≠ .fail) : CallLaw Tryz.prog 17 args h n k rr := memo_ok ex_m36_ok m36_good m36_run args h n k rr e hne
theorem m37_ok (args : List AV) (h : H) (n : Nat) (k : K) (rr : RR) (e : iMemo m37 args h n k = rr) (hne : rr ≠ .fail) : CallLaw Tryz.prog 15 args h n k rr := memo_ok ex0_ok m37_good m37_run args h n k rr e hne
theorem m38_ok (args : List AV) (h : H) (n : Nat) (k : K) (rr : RR) (e : iMemo m38 args h n k = rr) (hne : rr ≠ .fail) : CallLaw Tryz.prog 16 args h n k rr := memo_ok ex0_ok m38_good m38_run args h n k rr e hne
theorem m39_ok (args : List AV) (h : H) (n : Nat) (k : K) (rr : RR) (e : iMemo m39 args h n k = rr) (hne : rr ≠ .fail) : CallLaw Tryz.prog 55 args h n k rr := memo_ok ex0_ok m39_good m39_run args h n k rr e hne
theorem ex_m40_ok : ExOk ex_m40 := (exC_ok (orN_ok m39_ok (fun args h n k rr e hne => run_ok ex0_ok 500 55 args h n k rr e hne)) ex0_ok)
theorem m40_ok (args : List AV) (h : H) (n : Nat) (k : K) (rr : RR) (e : iMemo m40 args h n k = rr) (hne : rr ≠ .fail) : CallLaw Tryz.prog 17 args h n k rr := memo_ok ex_m40_ok m40_good m40_run args h n k rr e hne
theorem m41_ok (args : List AV) (h : H) (n : Nat) (k : K) (rr : RR) (e : iMemo m41 args h n k = rr) (hne : rr ≠ .fail) : CallLaw Tryz.prog 15 args h n k rr := memo_ok ex0_ok m41_good m41_run args h n k rr e hne
theorem m42_ok (args : List AV) (h : H) (n : Nat) (k : K) (rr : RR) (e : iMemo m42 args h n k = rr) (hne : rr ≠ .fail) : CallLaw Tryz.prog 16 args h n k rr := memo_ok ex0_ok m42_good m42_run args h n k rr e hne
theorem m43_ok (args : List AV) (h : H) (n : Nat) (k : K) (rr : RR) (e : iMemo m43 args h n k = rr) (hne : rr ≠ .fail) : CallLaw Tryz.prog 55 args h n k rr := memo_ok ex0_ok m43_good m43_run args h n k rr e hne
theorem m44_ok (args : List AV) (h : H) (n : Nat) (k : K) (rr : RR) (e : iMemo m44 args h n k = rr) (hne : rr ≠ .fail) : CallLaw Tryz.prog 55 args h n k rr := memo_ok ex0_ok m44_good m44_run args h n k rr e hne
theorem ex_m45_ok : ExOk ex_m45 := (exC_ok (orN_ok m43_ok m44_ok) ex0_ok)
theorem m45_ok (args : List AV) (h : H) (n : Nat) (k : K) (rr : RR) (e : iMemo m45 args h n k = rr) (hne : rr ≠ .fail) : CallLaw Tryz.prog 17 args h n k rr := memo_ok ex_m45_ok m45_good m45_run args h n k rr e hne
theorem m46_ok (args : List AV) (h : H) (n : Nat) (k : K) (rr : RR) (e : iMemo m46 args h n k = rr) (hne : rr ≠ .fail) : CallLaw Tryz.prog 15 args h n k rr := memo_ok ex0_ok m46_good m46_run args h n k rr e hne
theorem m47_ok (args : List AV) (h : H) (n : Nat) (k : K) (rr : RR) (e : iMemo m47 args h n k = rr) (hne : rr ≠ .fail) : CallLaw Tryz.prog 15 args h n k rr := memo_ok ex0_ok m47_good m47_run args h n k rr e hne
theorem ex_m48_ok : ExOk ex_m48 := (exC_ok m47_ok ex0_ok)
theorem m48_ok (args : List AV) (h : H) (n : Nat) (k : K) (rr : RR) (e : iMemo m48 args h n k = rr) (hne : rr ≠ .fail) : CallLaw Tryz.prog 44 args h n k rr := memo_ok ex_m48_ok m48_good m48_run args h n k rr e hne
theorem m49_ok (args : List AV) (h : H) (n : Nat) (k : K) (rr : RR) (e : iMemo m49 args h n k = rr) (hne : rr ≠ .fail) : CallLaw Tryz.prog 16 args h n k rr := memo_ok ex0_ok m49_good m49_run args h n k rr e hne
theorem m50_ok (args : List AV) (h : H) (n : Nat) (k : K) (rr : RR) (e : iMemo m50 args h n k = rr) (hne : rr ≠ .fail) : CallLaw Tryz.prog 102 args h n k rr := memo_ok ex0_ok m50_good m50_run args h n k rr e hne
theorem m51_ok (args : List AV) (h : H) (n : Nat) (k : K) (rr : RR) (e : iMemo m51 args h n k = rr) (hne : rr ≠ .fail) : CallLaw Tryz.prog 16 args h n k rr := memo_ok ex0_ok m51_good m51_run args h n k rr e hne
theorem m52_ok (args : List AV) (h : H) (n : Nat) (k : K) (rr : RR) (e : iMemo m52 args h n k = rr) (hne : rr ≠ .fail) : CallLaw Tryz.prog 102 args h n k rr := memo_ok ex0_ok m52_good m52_run args h n k rr e hne
theorem ex_m53_ok : ExOk ex_m53 := (exC_ok (orN_ok m49_ok m51_ok) (exC_ok (orN_ok m50_ok m52_ok) ex0_ok))
theorem m53_ok (args : List AV) (h : H) (n : Nat) (k : K) (rr : RR) (e : iMemo m53 args h n k = rr) (hne : rr ≠ .fail) : CallLaw Tryz.prog 45 args h n k rr := memo_ok ex_m53_ok m53_good m53_run args h n k rr e hne
theorem ex_m54_ok : ExOk ex_m54 := (exC_ok m48_ok (exC_ok m53_ok ex0_ok))
theorem m54_ok (args : List AV) (h : H) (n : Nat) (k : K) (rr : RR) (e : iMemo m54 args h n k = rr) (hne : rr ≠ .fail) : CallLaw Tryz.prog 12 args h n k rr := memo_ok ex_m54_ok m54_good m54_run args h n k rr e hne
theorem m55_ok (args : List AV) (h : H) (n : Nat) (k : K) (rr : RR) (e : iMemo m55 args h n k = rr) (hne : rr ≠ .fail) : CallLaw Tryz.prog 15 args h n k rr := memo_ok ex0_ok m55_good m55_run args h n k rr e hne
theorem m56_ok (args : List AV) (h : H) (n : Nat) (k : K) (rr : RR) (e : iMemo m56 args h n k = rr) (hne : rr ≠ .fail) : CallLaw Tryz.prog 15 args h n k rr := memo_ok ex0_ok m56_good m56_run args h n k rr e hne
theorem m57_ok (args : List AV) (h : H) (n : Nat) (k : K) (rr : RR) (e : iMemo m57 args h n k = rr) (hne : rr ≠ .fail) : CallLaw Tryz.prog 16 args h n k rr := memo_ok ex0_ok m57_good m57_run args h n k rr e hne
theorem m58_ok (args : List AV) (h : H) (n : Nat) (k : K) (rr : RR) (e : iMemo m58 args h n k = rr) (hne : rr ≠ .fail) : CallLaw Tryz.prog 55 args h n k rr := memo_ok ex0_ok m58_good m58_run args h n k rr e hne
theorem ex_m59_ok : ExOk ex_m59 := (exC_ok (orN_ok m58_ok (fun args h n k rr e hne => run_ok ex0_ok 500 55 args h n k rr e hne)) ex0_ok)
theorem m59_ok (args : List AV) (h : H) (n : Nat) (k : K) (rr : RR) (e : iMemo m59 args h n k = rr) (hne : rr ≠ .fail) : CallLaw Tryz.prog 17 args h n k rr := memo_ok ex_m59_ok m59_good m59_run args h n k rr e hne
theorem m60_ok (args : List AV) (h : H) (n : Nat) (k : K) (rr : RR) (e : iMemo m60 args h n k = rr) (hne : rr ≠ .fail) : CallLaw Tryz.prog 15 args h n k rr := memo_ok ex0_ok m60_good m60_run args h n k rr e hne
theorem m61_ok (args : List AV) (h : H) (n : Nat) (k : K) (rr : RR) (e : iMemo m61 args h n k = rr) (hne : rr ≠ .fail) : CallLaw Tryz.prog 16 args h n k rr := memo_ok ex0_ok m61_good m61_run args h n k rr e hne
theorem m62_ok (args : List AV) (h : H) (n : Nat) (k : K) (rr : RR) (e : iMemo m62 args h n k = rr) (hne : rr ≠ .fail) : CallLaw Tryz.prog 55 args h n k rr := memo_ok ex0_ok m62_good m62_run args h n k rr e hne
theorem ex_m63_ok : ExOk ex_m63 := (exC_ok (orN_ok m62_ok (fun args h n k rr e hne => run_ok ex0_ok 500 55 args h n k rr e hne)) ex0_ok)
theorem m63_ok (args : List AV) (h : H) (n : Nat) (k : K) (rr : RR) (e : iMemo m63 args h n k = rr) (hne : rr ≠ .fail) : CallLaw Tryz.prog 17 args h n k rr := memo_ok ex_m63_ok m63_good m63_run args h n k rr e hne
theorem m64_ok (args : List AV) (h : H) (n : Nat) (k : K) (rr : RR) (e : iMemo m64 args h n k = rr) (hne : rr ≠ .fail) : CallLaw Tryz.prog 15 args h n k rr := memo_ok ex0_ok m64_good m64_run args h n k rr e hne
theorem m65_ok (args : List AV) (h : H) (n : Nat) (k : K) (rr : RR) (e : iMemo m65 args h n k = rr) (hne : rr ≠ .fail) : CallLaw Tryz.prog 16 args h n k rr := memo_ok ex0_ok m65_good m65_run args h n k rr e hne
theorem m66_ok (args : List AV) (h : H) (n : Nat) (k : K) (rr : RR) (e : iMemo m66 args h n k = rr) (hne : rr ≠ .fail) : CallLaw Tryz.prog 55 args h n k rr := memo_ok ex0_ok m66_good m66_run args h n k rr e hne
theorem m67_ok (args : List AV) (h : H) (n : Nat) (k : K) (rr : RR) (e : iMemo m67 args h n k = rr) (hne : rr ≠ .fail) : CallLaw Tryz.prog 55 args h n k rr := memo_ok ex0_ok m67_good m67_run args h n k rr e hne
theorem ex_m68_ok : ExOk ex_m68 := (exC_ok (orN_ok m66_ok m67_ok) ex0_ok)
theorem m68_ok (args : List AV) (h : H) (n : Nat) (k : K) (rr : RR) (e : iMemo m68 args h n k = rr) (hne : rr ≠ .fail) : CallLaw Tryz.prog 17 args h n k rr := memo_ok ex_m68_ok m68_good m68_run args h n k rr e hne
theorem m69_ok (args : List AV) (h : H) (n : Nat) (k : K) (rr : RR) (e : iMemo m69 args h n k = rr) (hne : rr ≠ .fail) : CallLaw Tryz.prog 15 args h n k rr := memo_ok ex0_ok m69_good m69_run args h n k rr e hne
theorem m70_ok (args : List AV) (h : H) (n : Nat) (k : K) (rr : RR) (e : iMemo m70 args h n k = rr) (hne : rr ≠ .fail) : CallLaw Tryz.prog 15 args h n k rr := memo_ok ex0_ok m70_good m70_run args h n k rr e hne
theorem ex_m71_ok : ExOk ex_m71 := (exC_ok m70_ok ex0_ok)
theorem m71_ok (args : List AV) (h : H) (n : Nat) (k : K) (rr : RR) (e : iMemo m71 args h n k = rr) (hne : rr ≠ .fail) : CallLaw Tryz.prog 44 args h n k rr := memo_ok ex_m71_ok m71_good m71_run args h n k rr e hne
theorem m72_ok (args : List AV) (h : H) (n : Nat) (k : K) (rr : RR) (e : iMemo m72 args h n k = rr) (hne : rr ≠ .fail) : CallLaw Tryz.prog 16 args h n k rr := memo_ok ex0_ok m72_good m72_run args h n k rr e hne
theorem m73_ok (args : List AV) (h : H) (n : Nat) (k : K) (rr : RR) (e : iMemo m73 args h n k = rr) (hne : rr ≠ .fail) : CallLaw Tryz.prog 102 args h n k rr := memo_ok ex0_ok m73_good m73_run args h n k rr e hne
theorem m74_ok (args : List AV) (h : H) (n : Nat) (k : K) (rr : RR) (e : iMemo m74 args h n k = rr) (hne : rr ≠ .fail) : CallLaw Tryz.prog 16 args h n k rr := memo_ok ex0_ok m74_good m74_run args h n k rr e hne
theorem m75_ok (args : List AV) (h : H) (n : Nat) (k : K) (rr : RR) (e : iMemo m75 args h n k = rr) (hne : rr ≠ .fail) : CallLaw Tryz.prog 102 args h n k rr := memo_ok ex0_ok m75_good m75_run args h n k rr e hne
theorem ex_m76_ok : ExOk ex_m76 := (exC_ok (orN_ok m72_ok m74_ok) (exC_ok (orN_ok m73_ok m75_ok) ex0_ok))
theorem m76_ok (args : List AV) (h : H) (n : Nat) (k : K) (rr : RR) (e : iMemo m76 args h n k = rr) (hne : rr ≠ .fail) : CallLaw Tryz.prog 45 args h n k rr := memo_ok ex_m76_ok m76_good m76_run args h n k rr e hne
theorem ex_m77_ok : ExOk ex_m77 := (exC_ok m71_ok (exC_ok m76_ok ex0_ok))
theorem m77_ok (args : List AV) (h : H) (n : Nat) (k : K) (rr : RR) (e : iMemo m77 args h n k = rr) (hne : rr ≠ .fail) : CallLaw Tryz.prog 12 args h n k rr := memo_ok ex_m77_ok m77_good m77_run args h n k rr e hne
theorem m78_ok (args : List AV) (h : H) (n : Nat) (k : K) (rr : RR) (e : iMemo m78 args h n k = rr) (hne : rr ≠ .fail) : CallLaw Tryz.prog 15 args h n k rr := memo_ok ex0_ok m78_good m78_run args h n k rr e hne
theorem m79_ok (args : List AV) (h : H) (n : Nat) (k : K) (rr : RR) (e : iMemo m79 args h n k = rr) (hne : rr ≠ .fail) : CallLaw Tryz.prog 15 args h n k rr := memo_ok ex0_ok m79_good m79_run args h n k rr e hne
theorem m80_ok (args : List AV) (h : H) (n : Nat) (k : K) (rr : RR) (e : iMemo m80 args h n k = rr) (hne : rr ≠ .fail) : CallLaw Tryz.prog 16 args h n k rr := memo_ok ex0_ok m80_good m80_run args h n k rr e hne
theorem m81_ok (args : List AV) (h : H) (n : Nat) (k : K) (rr : RR) (e : iMemo m81 args h n k = rr) (hne : rr ≠ .fail) : CallLaw Tryz.prog 55 args h n k rr := memo_ok ex0_ok m81_good m81_run args h n k rr e hne
theorem ex_m82_ok : ExOk ex_m82 := (exC_ok (orN_ok m81_ok (fun args h n k rr e hne => run_ok ex0_ok 500 55 args h n k rr e hne)) ex0_ok)
theorem m82_ok (args : List AV) (h : H) (n : Nat) (k : K) (rr : RR) (e : iMemo m82 args h n k = rr) (hne : rr ≠ .fail) : CallLaw Tryz.prog 17 args h n k rr := memo_ok ex_m82_ok m82_good m82_run args h n k rr e hne
theorem m83_ok (args : List AV) (h : H) (n : Nat) (k : K) (rr : RR) (e : iMemo m83 args h n k = rr) (hne : rr ≠ .fail) : CallLaw Tryz.prog 15 args h n k rr := memo_ok ex0_ok m83_good m83_run args h n k rr e hne
theorem m84_ok (args : List AV) (h : H) (n : Nat) (k : K) (rr : RR) (e : iMemo m84 args h n k = rr) (hne : rr ≠ .fail) : CallLaw Tryz.prog 16 args h n k rr := memo_ok ex0_ok m84_good m84_run args h n k rr e hne
theorem m85_ok (args : List AV) (h : H) (n : Nat) (k : K) (rr : RR) (e : iMemo m85 args h n k = rr) (hne : rr ≠ .fail) : CallLaw Tryz.prog 55 args h n k rr := memo_ok ex0_ok m85_good m85_run args h n k rr e hne
theorem ex_m86_ok : ExOk ex_m86 := (exC_ok (orN_ok m85_ok (fun args h n k rr e hne => run_ok ex0_ok 500 55 args h n k rr e hne)) ex0_ok)
theorem m86_ok (args : List AV) (h : H) (n : Nat) (k : K) (rr : RR) (e : iMemo m86 args h n k = rr) (hne : rr ≠ .fail) : CallLaw Tryz.prog 17 args h n k rr := memo_ok ex_m86_ok m86_good m86_run args h n k rr e hne
theorem m87_ok (args : List AV) (h : H) (n : Nat) (k : K) (rr : RR) (e : iMemo m87 args h n k = rr) (hne : rr ≠ .fail) : CallLaw Tryz.prog 15 args h n k rr := memo_ok ex0_ok m87_good m87_run args h n k rr e hne
theorem m88_ok (args : List AV) (h : H) (n : Nat) (k : K) (rr : RR) (e : iMemo m88 args h n k = rr) (hne : rr ≠ .fail) : CallLaw Tryz.prog 16 args h n k rr := memo_ok ex0_ok m88_good m88_run args h n k rr e hne
theorem m89_ok (args : List AV) (h : H) (n : Nat) (k : K) (rr : RR) (e : iMemo m89 args h n k = rr) (hne : rr ≠ .fail) : CallLaw Tryz.prog 55 args h n k rr := memo_ok ex0_ok m89_good m89_run args h n k rr e hne
theorem m90_ok (args : List AV) (h : H) (n : Nat) (k : K) (rr : RR) (e : iMemo m90 args h n k = rr) (hne : rr ≠ .fail) : CallLaw Tryz.prog 55 args h n k rr := memo_ok ex0_ok m90_good m90_run args h n k rr e hne
theorem ex_m91_ok : ExOk ex_m91 := (exC_ok (orN_ok m89_ok m90_ok) ex0_ok)
theorem m91_ok (args : List AV) (h : H) (n : Nat) (k : K) (rr : RR) (e : iMemo m91 args h n k = rr) (hne : rr ≠ .fail) : CallLaw Tryz.prog 17 args h n k rr := memo_ok ex_m91_ok m91_good m91_run args h n k rr e hne
theorem m92_ok (args : List AV) (h : H) (n : Nat) (k : K) (rr : RR) (e : iMemo m92 args h n k = rr) (hne : rr ≠ .fail) : CallLaw Tryz.prog 15 args h n k rr := memo_ok ex0_ok m92_good m92_run args h n k rr e hne
theorem m93_ok (args : List AV) (h : H) (n : Nat) (k : K) (rr : RR) (e : iMemo m93 args h n k = rr) (hne : rr ≠ .fail) : CallLaw Tryz.prog 15 args h n k rr := memo_ok ex0_ok m93_good m93_run args h n k rr e hne
theorem ex_m94_ok : ExOk ex_m94 := (exC_ok m93_ok ex0_ok)
theorem m94_ok (args : List AV) (h : H) (n : Nat) (k : K) (rr : RR) (e : iMemo m94 args h n k = rr) (hne : rr ≠ .fail) : CallLaw Tryz.prog 44 args h n k rr := memo_ok ex_m94_ok m94_good m94_run args h n k rr e hne
theorem m95_ok (args : List AV) (h : H) (n : Nat) (k : K) (rr : RR) (e : iMemo m95 args h n k = rr) (hne : rr ≠ .fail) : CallLaw Tryz.prog 16 args h n k rr := memo_ok ex0_ok m95_good m95_run args h n k rr e hne
theorem m96_ok (args : List AV) (h : H) (n : Nat) (k : K) (rr : RR) (e : iMemo m96 args h n k = rr) (hne : rr ≠ .fail) : CallLaw Tryz.prog 102 args h n k rr := memo_ok ex0_ok m96_good m96_run args h n k rr e hne
theorem m97_ok (args : List AV) (h : H) (n : Nat) (k : K) (rr : RR) (e : iMemo m97 args h n k = rr) (hne : rr ≠ .fail) : CallLaw Tryz.prog 16 args h n k rr := memo_ok ex0_ok m97_good m97_run args h n k rr e hne
theorem m98_ok (args : List AV) (h : H) (n : Nat) (k : K) (rr : RR) (e : iMemo m98 args h n k = rr) (hne : rr ≠ .fail) : CallLaw Tryz.prog 102 args h n k rr := memo_ok ex0_ok m98_good m98_run args h n k rr e hne
theorem ex_m99_ok : ExOk ex_m99 := (exC_ok (orN_ok m95_ok m97_ok) (exC_ok (orN_ok m96_ok m98_ok) ex0_ok))
theorem m99_ok (args : List AV) (h : H) (n : Nat) (k : K) (rr : RR) (e : iMemo m99 args h n k = rr) (hne : rr ≠ .fail) : CallLaw Tryz.prog 45 args h n k rr := memo_ok ex_m99_ok m99_good m99_run args h n k rr e hne
theorem ex_m100_ok : ExOk ex_m100 := (exC_ok m94_ok (exC_ok m99_ok ex0_ok))
theorem m100_ok (args : List AV) (h : H) (n : Nat) (k : K) (rr : RR) (e : iMemo m100 args h n k = rr) (hne : rr ≠ .fail) : CallLaw Tryz.prog 12 args h n k rr := memo_ok ex_m100_ok m100_good m100_run args h n k rr e hne
theorem m101_ok (args : List AV) (h : H) (n : Nat) (k : K) (rr : RR) (e : iMemo m101 args h n k = rr) (hne : rr ≠ .fail) : CallLaw Tryz.prog 15 args h n k rr := memo_ok ex0_ok m101_good m101_run args h n k rr e hne
theorem m102_ok (args : List AV) (h : H) (n : Nat) (k : K) (rr : RR) (e : iMemo m102 args h n k = rr) (hne : rr ≠ .fail) : CallLaw Tryz.prog 15 args h n k rr := memo_ok ex0_ok m102_good m102_run args h n k rr e hne
theorem m103_ok (args : List AV) (h : H) (n : Nat) (k : K) (rr : RR) (e : iMemo m103 args h n k = rr) (hne : rr ≠ .fail) : CallLaw Tryz.prog 16 args h n k rr := memo_ok ex0_ok m103_good m103_run args h n k rr e hne
theorem m104_ok (args : List AV) (h : H) (n : Nat) (k : K) (rr : RR) (e : iMemo m104 args h n k = rr) (hne : rr ≠ .fail) : CallLaw Tryz.prog 55 args h n k rr := memo_ok ex0_ok m104_good m104_run args h n k rr e hne
theorem ex_m105_ok : ExOk ex_m105 := (exC_ok (orN_ok m104_ok (fun args h n k rr e hne => run_ok ex0_ok 500 55 args h n k rr e hne)) ex0_ok)
theorem m105_ok (args : List AV) (h : H) (n : Nat) (k : K) (rr : RR) (e : iMemo m105 args h n k = rr) (hne : rr ≠ .fail) : CallLaw Tryz.prog 17 args h n k rr := memo_ok ex_m105_ok m105_good m105_run args h n k rr e hne
theorem m106_ok (args : List AV) (h : H) (n : Nat) (k : K) (rr : RR) (e : iMemo m106 args h n k = rr) (hne : rr ≠ .fail) : CallLaw Tryz.prog 15 args h n k rr := memo_ok ex0_ok m106_good m106_run args h n k rr e hne
theorem m107_ok (args : List AV) (h : H) (n : Nat) (k : K) (rr : RR) (e : iMemo m107 args h n k = rr) (hne : rr ≠ .fail) : CallLaw Tryz.prog 16 args h n k rr := memo_ok ex0_ok m107_good m107_run args h n k rr e hne
theorem m108_ok (args : List AV) (h : H) (n : Nat) (k : K) (rr : RR) (e : iMemo m108 args h n k = rr) (hne : rr ≠ .fail) : CallLaw Tryz.prog 55 args h n k rr := memo_ok ex0_ok m108_good m108_run args h n k rr e hne
theorem ex_m109_ok : ExOk ex_m109 := (exC_ok (orN_ok m108_ok (fun args h n k rr e hne => run_ok ex0_ok 500 55 args h n k rr e hne)) ex0_ok)
theorem m109_ok (args : List AV) (h : H) (n : Nat) (k : K) (rr : RR) (e : iMemo m109 args h n k = rr) (hne : rr ≠ .fail) : CallLaw Tryz.prog 17 args h n k rr := memo_ok ex_m109_ok m109_good m109_run args h n k rr e hne
theorem m110_ok (args : List AV) (h : H) (n : Nat) (k : K) (rr : RR) (e : iMemo m110 args h n k = rr) (hne : rr ≠ .fail) : CallLaw Tryz.prog 15 args h n k rr := memo_ok ex0_ok m110_good m110_run args h n k rr e hne
theorem m111_ok (args : List AV) (h : H) (n : Nat) (k : K) (rr : RR) (e : iMemo m111 args h n k = rr) (hne : rr ≠ .fail) : CallLaw Tryz.prog 16 args h n k rr := memo_ok ex0_ok m111_good m111_run args h n k rr e hne
theorem m112_ok (args : List AV) (h : H) (n : Nat) (k : K) (rr : RR) (e : iMemo m112 args h n k = rr) (hne : rr ≠ .fail) : CallLaw Tryz.prog 55 args h n k rr := memo_ok ex0_ok m112_good m112_run args h n k rr e hne
theorem m113_ok (args : List AV) (h : H) (n : Nat) (k : K) (rr : RR) (e : iMemo m113 args h n k = rr) (hne : rr ≠ .fail) : CallLaw Tryz.prog 55 args h n k rr := memo_ok ex0_ok m113_good m113_run args h n k rr e hne
theorem ex_m114_ok : ExOk ex_m114 := (exC_ok (orN_ok m112_ok m113_ok) ex0_ok)
theorem m114_ok (args : List AV) (h : H) (n : Nat) (k : K) (rr : RR) (e : iMemo m114 args h n k = rr) (hne : rr ≠ .fail) : CallLaw Tryz.prog 17 args h n k rr := memo_ok ex_m114_ok m114_good m114_run args h n k rr e hne
theorem m115_ok (args : List AV) (h : H) (n : Nat) (k : K) (rr : RR) (e : iMemo m115 args h n k = rr) (hne : rr ≠ .fail) : CallLaw Tryz.prog 15 args h n k rr := memo_ok ex0_ok m115_good m115_run args h n k rr e hne
theorem exT_ok : ExOk exT := (exC_ok m4_ok (exC_ok (orN_ok m12_ok (orN_ok m54_ok (orN_ok m77_ok m100_ok))) (exC_ok (orN_ok m13_ok (orN_ok m14_ok (orN_ok m37_ok (orN_ok m41_ok (orN_ok m46_ok (orN_ok m55_ok (orN_ok m56_ok (orN_ok m60_ok (orN_ok m64_ok (orN_ok m69_ok (orN_ok m78_ok (orN_ok m79_ok (orN_ok m83_ok (orN_ok m87_ok (orN_ok m92_ok (orN_ok m101_ok (orN_ok m102_ok (orN_ok m106_ok (orN_ok m110_ok m115_ok))))))))))))))))))) (exC_ok m33_ok (exC_ok (orN_ok m34_ok (orN_ok m38_ok (orN_ok m42_ok (orN_ok m57_ok (orN_ok m61_ok (orN_ok m65_ok (orN_ok m80_ok (orN_ok m84_ok (orN_ok m88_ok (orN_ok m103_ok (orN_ok m107_ok m111_ok))))))))))) (exC_ok (orN_ok m36_ok (orN_ok m40_ok (orN_ok m45_ok (orN_ok m59_ok (orN_ok m63_ok (orN_ok m68_ok (orN_ok m82_ok (orN_ok m86_ok (orN_ok m91_ok (orN_ok m105_ok (orN_ok m109_ok (orN_ok m114_ok (fun args h n k rr e hne => run_ok ex0_ok 500 17 args h n k rr e hne))))))))))))) ex0_ok))))))
end
end Go.Proofs.Aud
