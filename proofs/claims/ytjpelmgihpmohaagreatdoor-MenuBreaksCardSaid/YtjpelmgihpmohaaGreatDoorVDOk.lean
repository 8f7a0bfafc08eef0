/- A part of the proof of MenuBreaks: the program run by the evaluator. No condition. -/
import Derived.Test.YtjpelmgihpmohaaGreatDoorVDR0
import Derived.Test.YtjpelmgihpmohaaGreatDoorVDR1
import Derived.Test.YtjpelmgihpmohaaGreatDoorVDR2
set_option linter.all false
namespace Go.Proofs.Aud
noncomputable section
noncomputable section
open Go Go.VE
set_option maxRecDepth 100000
theorem m0_ok:MOk m0 14:=memo_ok exN_ok m0_good m0_run
theorem m1_ok:MOk m1 15:=memo_ok exN_ok m1_good m1_run
theorem m2_ok:MOk m2 15:=memo_ok exN_ok m2_good m2_run
theorem m3_ok:MOk m3 16:=memo_ok exN_ok m3_good m3_run
theorem m4_ok:MOk m4 14:=memo_ok exN_ok m4_good m4_run
theorem m5_ok:MOk m5 15:=memo_ok exN_ok m5_good m5_run
theorem m6_ok:MOk m6 16:=memo_ok exN_ok m6_good m6_run
theorem ex_m7_ok:ExOk ex_m7:=(exC_ok m4_ok (exC_ok m5_ok (exC_ok m6_ok exN_ok)))
theorem m7_ok:MOk m7 23:=memo_ok ex_m7_ok m7_good m7_run
theorem m8_ok:MOk m8 15:=memo_ok exN_ok m8_good m8_run
theorem m9_ok:MOk m9 16:=memo_ok exN_ok m9_good m9_run
theorem m10_ok:MOk m10 15:=memo_ok exN_ok m10_good m10_run
theorem m11_ok:MOk m11 16:=memo_ok exN_ok m11_good m11_run
theorem m12_ok:MOk m12 19:=memo_ok exN_ok m12_good m12_run
theorem m13_ok:MOk m13 15:=memo_ok exN_ok m13_good m13_run
theorem m14_ok:MOk m14 16:=memo_ok exN_ok m14_good m14_run
theorem m15_ok:MOk m15 19:=memo_ok exN_ok m15_good m15_run
theorem m16_ok:MOk m16 15:=memo_ok exN_ok m16_good m16_run
theorem m17_ok:MOk m17 16:=memo_ok exN_ok m17_good m17_run
theorem m18_ok:MOk m18 19:=memo_ok exN_ok m18_good m18_run
theorem m19_ok:MOk m19 15:=memo_ok exN_ok m19_good m19_run
theorem m20_ok:MOk m20 16:=memo_ok exN_ok m20_good m20_run
theorem m21_ok:MOk m21 19:=memo_ok exN_ok m21_good m21_run
theorem m22_ok:MOk m22 15:=memo_ok exN_ok m22_good m22_run
theorem m23_ok:MOk m23 16:=memo_ok exN_ok m23_good m23_run
theorem m24_ok:MOk m24 19:=memo_ok exN_ok m24_good m24_run
theorem m25_ok:MOk m25 15:=memo_ok exN_ok m25_good m25_run
theorem m26_ok:MOk m26 16:=memo_ok exN_ok m26_good m26_run
theorem m27_ok:MOk m27 19:=memo_ok exN_ok m27_good m27_run
theorem exT_ok:ExOk exT:=(exC_ok m0_ok (exC_ok (orN_ok m1_ok (orN_ok m2_ok (orN_ok m8_ok (orN_ok m10_ok (orN_ok m13_ok (orN_ok m16_ok (orN_ok m19_ok (orN_ok m22_ok m25_ok)))))))) (exC_ok (orN_ok m3_ok (orN_ok m9_ok (orN_ok m11_ok (orN_ok m14_ok (orN_ok m17_ok (orN_ok m20_ok (orN_ok m23_ok m26_ok))))))) (exC_ok m7_ok (exC_ok (orN_ok m12_ok (orN_ok m15_ok (orN_ok m18_ok (orN_ok m21_ok (orN_ok m24_ok (orN_ok m27_ok (fun args h n k rr e hne=>run_ok exN_ok 500 19 args h n k rr e hne))))))) exN_ok)))))
end
end
end Go.Proofs.Aud
