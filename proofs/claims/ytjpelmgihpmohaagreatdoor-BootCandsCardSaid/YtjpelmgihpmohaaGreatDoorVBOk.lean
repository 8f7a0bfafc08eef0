/- A part of the proof of BootCands: the program run by the evaluator. No condition. -/
import Derived.Test.YtjpelmgihpmohaaGreatDoorVBR0
import Derived.Test.YtjpelmgihpmohaaGreatDoorVBR1
import Derived.Test.YtjpelmgihpmohaaGreatDoorVBR2
import Derived.Test.YtjpelmgihpmohaaGreatDoorVBR3
set_option linter.all false
namespace Go.Proofs.Aud
noncomputable section
noncomputable section
open Go Go.VE
set_option maxRecDepth 100000
theorem m0_ok:MOk m0 6:=memo_ok exN_ok m0_good m0_run
theorem m1_ok:MOk m1 6:=memo_ok exN_ok m1_good m1_run
theorem ex_m2_ok:ExOk ex_m2:=(exC_ok m1_ok exN_ok)
theorem m2_ok:MOk m2 13:=memo_ok ex_m2_ok m2_good m2_run
theorem m3_ok:MOk m3 7:=memo_ok exN_ok m3_good m3_run
theorem m4_ok:MOk m4 7:=memo_ok exN_ok m4_good m4_run
theorem m5_ok:MOk m5 7:=memo_ok exN_ok m5_good m5_run
theorem m6_ok:MOk m6 7:=memo_ok exN_ok m6_good m6_run
theorem m7_ok:MOk m7 7:=memo_ok exN_ok m7_good m7_run
theorem m8_ok:MOk m8 7:=memo_ok exN_ok m8_good m8_run
theorem m9_ok:MOk m9 7:=memo_ok exN_ok m9_good m9_run
theorem m10_ok:MOk m10 7:=memo_ok exN_ok m10_good m10_run
theorem m11_ok:MOk m11 7:=memo_ok exN_ok m11_good m11_run
theorem m12_ok:MOk m12 7:=memo_ok exN_ok m12_good m12_run
theorem m13_ok:MOk m13 7:=memo_ok exN_ok m13_good m13_run
theorem m14_ok:MOk m14 7:=memo_ok exN_ok m14_good m14_run
theorem m15_ok:MOk m15 7:=memo_ok exN_ok m15_good m15_run
theorem m16_ok:MOk m16 7:=memo_ok exN_ok m16_good m16_run
theorem m17_ok:MOk m17 7:=memo_ok exN_ok m17_good m17_run
theorem m18_ok:MOk m18 7:=memo_ok exN_ok m18_good m18_run
theorem m19_ok:MOk m19 7:=memo_ok exN_ok m19_good m19_run
theorem m20_ok:MOk m20 7:=memo_ok exN_ok m20_good m20_run
theorem m21_ok:MOk m21 7:=memo_ok exN_ok m21_good m21_run
theorem m22_ok:MOk m22 7:=memo_ok exN_ok m22_good m22_run
theorem m23_ok:MOk m23 7:=memo_ok exN_ok m23_good m23_run
theorem m24_ok:MOk m24 7:=memo_ok exN_ok m24_good m24_run
theorem m25_ok:MOk m25 7:=memo_ok exN_ok m25_good m25_run
theorem m26_ok:MOk m26 7:=memo_ok exN_ok m26_good m26_run
theorem m27_ok:MOk m27 7:=memo_ok exN_ok m27_good m27_run
theorem m28_ok:MOk m28 7:=memo_ok exN_ok m28_good m28_run
theorem m29_ok:MOk m29 7:=memo_ok exN_ok m29_good m29_run
theorem m30_ok:MOk m30 7:=memo_ok exN_ok m30_good m30_run
theorem m31_ok:MOk m31 7:=memo_ok exN_ok m31_good m31_run
theorem m32_ok:MOk m32 7:=memo_ok exN_ok m32_good m32_run
theorem m33_ok:MOk m33 7:=memo_ok exN_ok m33_good m33_run
theorem m34_ok:MOk m34 7:=memo_ok exN_ok m34_good m34_run
theorem m35_ok:MOk m35 7:=memo_ok exN_ok m35_good m35_run
theorem m36_ok:MOk m36 7:=memo_ok exN_ok m36_good m36_run
theorem m37_ok:MOk m37 7:=memo_ok exN_ok m37_good m37_run
theorem m38_ok:MOk m38 7:=memo_ok exN_ok m38_good m38_run
theorem m39_ok:MOk m39 7:=memo_ok exN_ok m39_good m39_run
theorem m40_ok:MOk m40 7:=memo_ok exN_ok m40_good m40_run
theorem m41_ok:MOk m41 7:=memo_ok exN_ok m41_good m41_run
theorem m42_ok:MOk m42 7:=memo_ok exN_ok m42_good m42_run
theorem m43_ok:MOk m43 7:=memo_ok exN_ok m43_good m43_run
theorem m44_ok:MOk m44 7:=memo_ok exN_ok m44_good m44_run
theorem m45_ok:MOk m45 7:=memo_ok exN_ok m45_good m45_run
theorem m46_ok:MOk m46 7:=memo_ok exN_ok m46_good m46_run
theorem m47_ok:MOk m47 7:=memo_ok exN_ok m47_good m47_run
theorem m48_ok:MOk m48 7:=memo_ok exN_ok m48_good m48_run
theorem m49_ok:MOk m49 7:=memo_ok exN_ok m49_good m49_run
theorem m50_ok:MOk m50 7:=memo_ok exN_ok m50_good m50_run
theorem m51_ok:MOk m51 7:=memo_ok exN_ok m51_good m51_run
theorem exT_ok:ExOk exT:=(exC_ok m0_ok (exC_ok m2_ok (exC_ok (orN_ok m3_ok (orN_ok m4_ok (orN_ok m5_ok (orN_ok m6_ok (orN_ok m7_ok (orN_ok m8_ok (orN_ok m9_ok (orN_ok m10_ok (orN_ok m11_ok (orN_ok m12_ok (orN_ok m13_ok (orN_ok m14_ok (orN_ok m15_ok (orN_ok m16_ok (orN_ok m17_ok (orN_ok m18_ok (orN_ok m19_ok (orN_ok m20_ok (orN_ok m21_ok (orN_ok m22_ok (orN_ok m23_ok (orN_ok m24_ok (orN_ok m25_ok (orN_ok m26_ok (orN_ok m27_ok (orN_ok m28_ok (orN_ok m29_ok (orN_ok m30_ok (orN_ok m31_ok (orN_ok m32_ok (orN_ok m33_ok (orN_ok m34_ok (orN_ok m35_ok (orN_ok m36_ok (orN_ok m37_ok (orN_ok m38_ok (orN_ok m39_ok (orN_ok m40_ok (orN_ok m41_ok (orN_ok m42_ok (orN_ok m43_ok (orN_ok m44_ok (orN_ok m45_ok (orN_ok m46_ok (orN_ok m47_ok (orN_ok m48_ok (orN_ok m49_ok (orN_ok m50_ok (orN_ok m51_ok (fun args h n k rr e hne=>run_ok exN_ok 500 7 args h n k rr e hne)))))))))))))))))))))))))))))))))))))))))))))))))) exN_ok)))
end
end
end Go.Proofs.Aud
