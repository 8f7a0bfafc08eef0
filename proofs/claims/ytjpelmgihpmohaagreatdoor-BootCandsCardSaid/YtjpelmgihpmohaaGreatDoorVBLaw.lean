/- A part of the proof of BootCands: the program run by the evaluator. No condition. -/
import Derived.Test.YtjpelmgihpmohaaGreatDoorVBInv
import Derived.Test.YtjpelmgihpmohaaGreatDoorVBOk
import Derived.Test.YtjpelmgihpmohaaGreatDoorVBS0
import Derived.Test.YtjpelmgihpmohaaGreatDoorVBS1
import Derived.Test.YtjpelmgihpmohaaGreatDoorVBS2
import Derived.Test.YtjpelmgihpmohaaGreatDoorVBS3
import Derived.Test.YtjpelmgihpmohaaGreatDoorVBS4
import Derived.Test.YtjpelmgihpmohaaGreatDoorVBS5
import Derived.Test.YtjpelmgihpmohaaGreatDoorVBS6
import Derived.Test.YtjpelmgihpmohaaGreatDoorVBS7
import Derived.Test.YtjpelmgihpmohaaGreatDoorCards
import Derived.WalkKit
import Derived.ProofKit
import Derived.OpenShut
import Derived.ShutString
import Derived.ChangeOld
import Derived.Below
import Derived.SizedLaws
import Derived.LaidMore
import Derived.Lay
import Derived.SevenTiedAt
import Derived.SliceStrings
import Derived.Stop.Joined
set_option linter.all false
namespace Go.Proofs.Aud
noncomputable section
noncomputable section
open Go Go.VE Go.Proofs.YtjpelmgihpmohaaGreatDoor Go.ChangeShapes Go.WideShapes Go.ChangeAt Go.RowKit
set_option maxRecDepth 100000
theorem exM_ok:ExOk exM:=exT_ok
theorem isFin_ok {r:RR} (h:isFin r=true):∃ h',r=.fin .undef h' 0:=by
 cases r with
 | fin v h' n=>
  cases v<;>first
   | (have:n=0:=zak h; subst this; exact ⟨_,rfl⟩)
   | cases h
 | _=>cases h
theorem allR_ok {f:Nat→RR}:∀ (c i:Nat),allR f c i=true→∀ j,i≤j→j < i + c→isFin (f j)=true
 | 0,i,_,j,h1,h2=>by omega
 | c + 1,i,h,j,h1,h2=>by
  have e:allR f (c + 1) i=br (isFin (f i)) (frc (i + 1) (allR f c)) false:=rfl
  rw [e,zam] at h
  obtain ⟨h3,h4⟩:=brb h
  by_cases hj:j=i
  ·rw [hj]; exact h3
  ·exact allR_ok c (i + 1) h4 j (by omega) (by omega)
theorem rel_ukn0 {ρ:Mp} (m:Nat) {a:Int} (ha:inK .i64 a) (hm:m < 18446744073709551616:=by decide):rel ρ (.ukn 3 m (Nat.land (Go.VE.encI .i64 a) m)) (.int .i64 a):=by simp only [rel]; exact ⟨.i64,a,rfl,rfl,z1o hm,ha.1,ha.2⟩
theorem rel_uknR {ρ:Mp} (M mask r:Nat) {a:Int} (ha:inK .i64 a) (h1:¬ M < 18446744073709551616:=by decide) (h2:M < 340282366920938463463374607431768211456:=by decide) (h3:M % 18446744073709551616=mask:=by decide) (h4:M / 18446744073709551616=r:=by decide):rel ρ (.ukn 3 M (Nat.land (Go.VE.encI .i64 a) mask % r)) (.int .i64 a):=by simp only [rel]; exact ⟨.i64,a,rfl,rfl,by rw [z1p h1 h2,h3,h4],ha.1,ha.2⟩
theorem land_lt (u m:Nat):Nat.land u m < m + 1:=Nat.lt_succ_of_le (Nat.and_le_right (n:=u) (m:=m))
theorem lo (k0:Nat) (hk0:k0 < 8) (k1:Nat) (hk1:k1 < 8):isFin (runA [.ukn 3 7 k0,.ukn 3 7 k1])=true:=by
 have ck0:k0=0∨k0=1∨k0=2∨k0=3∨k0=4∨k0=5∨k0=6∨k0=7:=by omega
 have ck1:k1=0∨k1=1∨k1=2∨k1=3∨k1=4∨k1=5∨k1=6∨k1=7:=by omega
 rcases ck0 with rfl | rfl | rfl | rfl | rfl | rfl | rfl | rfl<;>rcases ck1 with rfl | rfl | rfl | rfl | rfl | rfl | rfl | rfl
 ·exact allR_ok 1 0 s0 0 (by omega) (by omega)
 ·exact allR_ok 1 0 s1 0 (by omega) (by omega)
 ·exact allR_ok 1 0 s2 0 (by omega) (by omega)
 ·exact allR_ok 1 0 s3 0 (by omega) (by omega)
 ·exact allR_ok 1 0 s4 0 (by omega) (by omega)
 ·exact allR_ok 1 0 s5 0 (by omega) (by omega)
 ·exact allR_ok 1 0 s6 0 (by omega) (by omega)
 ·exact allR_ok 1 0 s7 0 (by omega) (by omega)
 ·exact allR_ok 1 0 s8 0 (by omega) (by omega)
 ·exact allR_ok 1 0 s9 0 (by omega) (by omega)
 ·exact allR_ok 1 0 s10 0 (by omega) (by omega)
 ·exact allR_ok 1 0 s11 0 (by omega) (by omega)
 ·exact allR_ok 1 0 s12 0 (by omega) (by omega)
 ·exact allR_ok 1 0 s13 0 (by omega) (by omega)
 ·exact allR_ok 1 0 s14 0 (by omega) (by omega)
 ·exact allR_ok 1 0 s15 0 (by omega) (by omega)
 ·exact allR_ok 1 0 s16 0 (by omega) (by omega)
 ·exact allR_ok 1 0 s17 0 (by omega) (by omega)
 ·exact allR_ok 1 0 s18 0 (by omega) (by omega)
 ·exact allR_ok 1 0 s19 0 (by omega) (by omega)
 ·exact allR_ok 1 0 s20 0 (by omega) (by omega)
 ·exact allR_ok 1 0 s21 0 (by omega) (by omega)
 ·exact allR_ok 1 0 s22 0 (by omega) (by omega)
 ·exact allR_ok 1 0 s23 0 (by omega) (by omega)
 ·exact allR_ok 1 0 s24 0 (by omega) (by omega)
 ·exact allR_ok 1 0 s25 0 (by omega) (by omega)
 ·exact allR_ok 1 0 s26 0 (by omega) (by omega)
 ·exact allR_ok 1 0 s27 0 (by omega) (by omega)
 ·exact allR_ok 1 0 s28 0 (by omega) (by omega)
 ·exact allR_ok 1 0 s29 0 (by omega) (by omega)
 ·exact allR_ok 1 0 s30 0 (by omega) (by omega)
 ·exact allR_ok 1 0 s31 0 (by omega) (by omega)
 ·exact allR_ok 1 0 s32 0 (by omega) (by omega)
 ·exact allR_ok 1 0 s33 0 (by omega) (by omega)
 ·exact allR_ok 1 0 s34 0 (by omega) (by omega)
 ·exact allR_ok 1 0 s35 0 (by omega) (by omega)
 ·exact allR_ok 1 0 s36 0 (by omega) (by omega)
 ·exact allR_ok 1 0 s37 0 (by omega) (by omega)
 ·exact allR_ok 1 0 s38 0 (by omega) (by omega)
 ·exact allR_ok 1 0 s39 0 (by omega) (by omega)
 ·exact allR_ok 1 0 s40 0 (by omega) (by omega)
 ·exact allR_ok 1 0 s41 0 (by omega) (by omega)
 ·exact allR_ok 1 0 s42 0 (by omega) (by omega)
 ·exact allR_ok 1 0 s43 0 (by omega) (by omega)
 ·exact allR_ok 1 0 s44 0 (by omega) (by omega)
 ·exact allR_ok 1 0 s45 0 (by omega) (by omega)
 ·exact allR_ok 1 0 s46 0 (by omega) (by omega)
 ·exact allR_ok 1 0 s47 0 (by omega) (by omega)
 ·exact allR_ok 1 0 s48 0 (by omega) (by omega)
 ·exact allR_ok 1 0 s49 0 (by omega) (by omega)
 ·exact allR_ok 1 0 s50 0 (by omega) (by omega)
 ·exact allR_ok 1 0 s51 0 (by omega) (by omega)
 ·exact allR_ok 1 0 s52 0 (by omega) (by omega)
 ·exact allR_ok 1 0 s53 0 (by omega) (by omega)
 ·exact allR_ok 1 0 s54 0 (by omega) (by omega)
 ·exact allR_ok 1 0 s55 0 (by omega) (by omega)
 ·exact allR_ok 1 0 s56 0 (by omega) (by omega)
 ·exact allR_ok 1 0 s57 0 (by omega) (by omega)
 ·exact allR_ok 1 0 s58 0 (by omega) (by omega)
 ·exact allR_ok 1 0 s59 0 (by omega) (by omega)
 ·exact allR_ok 1 0 s60 0 (by omega) (by omega)
 ·exact allR_ok 1 0 s61 0 (by omega) (by omega)
 ·exact allR_ok 1 0 s62 0 (by omega) (by omega)
 ·exact allR_ok 1 0 s63 0 (by omega) (by omega)
theorem mainR (ρ:Mp) (a0:Int) (a1:Int) (hh0:inK .i64 a0) (hh1:inK .i64 a1):∃ l,relS ρ l [.int .i64 a0,.int .i64 a1]∧∃ h',(lv (cxT exM) 500).call 3 l h0 10 chkT=.fin .undef h' 0:=
 ⟨[.ukn 3 7 _,.ukn 3 7 _],⟨_,_,rfl,rel_ukn0 7 hh0,_,_,rfl,rel_ukn0 7 hh1,rfl⟩,isFin_ok (lo _ (land_lt _ 7) _ (land_lt _ 7))⟩
theorem chkT_ok {v:AV} {h:H} {n:Nat} {h':H} (e:chkT v h n=.fin .undef h' 0):v=.bool true:=by
 cases v<;>first
  | (rename_i b; cases b<;>first | rfl | cases e)
  | cases e
theorem calls (a0:Int) (a1:Int) (hh0:inK .i64 a0) (hh1:inK .i64 a1) {W:World} (hs:W.ShapedOpen Tryz.prog) (hL:laidMetH Tryz.prog Rows.bootCandsRow.laid W):
  Calls Tryz.prog 3 #[.int .i64 a0,.int .i64 a1] W fun e W'=>e=.returned (.bool true)∧∀ may,W.keptBut W' may:=by
 obtain ⟨l,harg,h',hr⟩:=mainR (ρ0 W) a0 a1 hh0 hh1
 have hi:=inv0 hs hL
 rcases run_ok exM_ok 500 3 _ _ _ _ _ hr (by simp) with ⟨_,hc⟩ | hc
 ·refine (hc (ρ0 W) W _ hi harg).mono fun e W' hp=>?_
  obtain ⟨rv,rfl,v,g,n,σ,p1,p2,p3⟩:=hp
  have:=chkT_ok p1; subst this
  simp only [rel] at p3
  subst p3
  refine ⟨rfl,fun may=>⟨p2.io.1,p2.io.2,fun i hi'=>?_⟩⟩
  have hk:W'.heap[i]?=W.heap[i]?:=p2.keep i hi' fun hl=>by
   obtain ⟨b,o,x,l1,_,l3⟩:=hl
   have h':(if b < 10 then some (b,0) else none)=some (i,x):=l3
   split at h'
   ·rename_i hb
    have:KG=10:=rfl
    omega
   ·cases h'
  rw [hk]
  split<;>simp_all
 ·obtain ⟨rv,w',f4,_⟩:=hc (ρ0 W) W _ hi harg
  exfalso
  have f5:=(enters_of Tryz.func3 (by kernel_rfl) rfl:Enters Tryz.prog 3) #[.int .i64 a0,.int .i64 a1] W
  rw [f5] at f4
  cases f4
end
end
end Go.Proofs.Aud
