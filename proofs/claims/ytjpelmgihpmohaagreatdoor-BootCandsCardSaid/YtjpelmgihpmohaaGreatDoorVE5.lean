/- The evaluator, part 5: definitions and their laws, over any program. No condition. -/
import Derived.Laws.Strings
import Derived.Lib.Strings
import Derived.Test.YtjpelmgihpmohaaGreatDoorVE4
set_option linter.all false
namespace Go.VE
noncomputable section
open Go
section
variable {P:Program} {ρ:Mp} {h:H} {n:Nat} {w:World} {k:K} {rr:RR}
theorem zot {z m b a:Nat} (h:Nat.land z m=a) (hb:Nat.land m b=b):Nat.land z b=Nat.land a b:=by
 have h':z &&& m=a:=h
 have hb':m &&& b=b:=hb
 show z &&& b=a &&& b
 rw [← h',Nat.and_assoc,hb']
theorem zvv {z m c b:Nat} (h:Nat.land z m=c):Nat.land (z / 2 ^ b) (m / 2 ^ b)=c / 2 ^ b:=by
 have h':z &&& m=c:=h
 show (z / 2 ^ b) &&& (m / 2 ^ b)=c / 2 ^ b
 rw [← h',← Nat.shiftRight_eq_div_pow,← Nat.shiftRight_eq_div_pow,← Nat.shiftRight_eq_div_pow,Nat.shiftRight_and_distrib]
theorem zvw {x m j:Nat} (hm:m < 2 ^ j):Nat.land x m=Nat.land (x % 2 ^ j) m:=by
 show x &&& m=(x % 2 ^ j) &&& m
 apply Nat.eq_of_testBit_eq
 intro i
 rw [Nat.testBit_and,Nat.testBit_and,Nat.testBit_mod_two_pow]
 by_cases hi:i < j
 ·simp [hi]
 ·have:m.testBit i=false:=Nat.testBit_lt_two_pow (Nat.lt_of_lt_of_le hm (Nat.pow_le_pow_right (by omega) (by omega)))
  simp [this]
theorem zyl {z:Int} {b:Nat} (hb:b < 64):encI .i64 (z.fdiv (2 ^ b)) % 2 ^ (64 - b)=encI .i64 z / 2 ^ b:=by
 have hp:(2:Int) ^ b > 0:=Int.pow_pos (by omega)
 rw [Int.fdiv_eq_ediv_of_nonneg _ (Int.le_of_lt hp)]
 have key:((encI .i64 (z / 2 ^ b) % 2 ^ (64 - b):Nat):Int)=((encI .i64 z / 2 ^ b:Nat):Int):=by
  rw [Int.natCast_emod,Int.natCast_ediv,zex,zex]
  have hmo:((moN (zad .i64):Nat):Int)=2 ^ b * 2 ^ (64 - b):=by
   rw [← Int.pow_add,show b + (64 - b)=64 by omega]; rfl
  have hc1:(((2:Nat) ^ (64 - b):Nat):Int)=2 ^ (64 - b):=by push_cast; rfl
  have hc2:(((2:Nat) ^ b:Nat):Int)=2 ^ b:=by push_cast; rfl
  rw [hmo,hc1,hc2,Int.emod_emod_of_dvd _ (Int.dvd_mul_left _ _)]
  have hq:(2:Int) ^ (64 - b) > 0:=Int.pow_pos (by omega)
  have hz:=Int.mul_ediv_add_emod z (2 ^ b * 2 ^ (64 - b))
  generalize hr:z % (2 ^ b * 2 ^ (64 - b))=r at hz ⊢
  have hr0:0≤r:=by rw [← hr]; exact Int.emod_nonneg _ (by have:=Int.mul_pos hp hq; omega)
  have hr1:r < 2 ^ b * 2 ^ (64 - b):=by rw [← hr]; exact Int.emod_lt_of_pos _ (Int.mul_pos hp hq)
  generalize z / (2 ^ b * 2 ^ (64 - b))=q at hz
  have hz2:z=r + 2 ^ b * (2 ^ (64 - b) * q):=by rw [← Int.mul_assoc]; omega
  rw [hz2,Int.add_mul_ediv_left _ _ (by omega),Int.add_mul_emod_self_left]
  exact Int.emod_eq_of_lt (Int.ediv_nonneg hr0 (Int.le_of_lt hp)) (by
   apply Int.ediv_lt_of_lt_mul hp; rw [Int.mul_comm]; exact hr1)
 exact_mod_cast key
theorem in_shr {z:Int} {b:Nat} (h:inK .i64 z):inK .i64 (z.fdiv (2 ^ b)):=by
 have hp:(2:Int) ^ b > 0:=Int.pow_pos (by omega)
 rw [Int.fdiv_eq_ediv_of_nonneg _ (Int.le_of_lt hp)]
 unfold inK at h ⊢
 rw [(zb0 .i64).1,(zb0 .i64).2] at h ⊢
 simp only at h ⊢
 have h1:(1:Int)≤2 ^ b:=by omega
 rcases Int.le_total 0 z with h0 | h0
 ·have:=Int.ediv_le_self (2 ^ b) h0
  have:=Int.ediv_nonneg h0 (Int.le_of_lt hp)
  omega
 ·have h3:z / 2 ^ b≤0:=by
   have:=Int.ediv_le_ediv hp h0
   rwa [Int.zero_ediv] at this
  have h4:=Int.mul_ediv_add_emod z (2 ^ b)
  have h5:=Int.emod_lt_of_pos z hp
  generalize z / 2 ^ b=Q at h3 h4 ⊢
  generalize z % 2 ^ b=r at h4 h5
  have h2:z≤Q:=by
   rcases (by omega:Q < 0∨0≤Q) with hq | hq
   ·have h6:2 ^ b * (Q + 1)≤1 * (Q + 1):=Int.mul_le_mul_of_nonpos_right h1 (by omega)
    rw [Int.mul_add,Int.mul_one,Int.one_mul] at h6
    omega
   ·omega
  omega
theorem zoh (k:IntKind) (x:Int) (z:Nat):encI k (x * (z:Int))=(encI k x * z) % moN (zad k):=by
 have:((encI k (x * (z:Int)):Nat):Int)=((encI k x * z) % moN (zad k):Nat):=by
  rw [zex,Int.natCast_emod,Int.natCast_mul,zex,Int.mul_emod,Int.mul_emod (x % _) (z:Int),Int.emod_emod]
 exact_mod_cast this
theorem zpl:∀ (a b:List UInt8),(Op.bytesLess a b || a == b)=!(Op.bytesLess b a)
 | [],[]=>rfl
 | [],b :: m=>rfl
 | a :: l,[]=>rfl
 | a :: l,b :: m=>by
  have ih:=zpl l m
  simp only [Op.bytesLess]
  rcases Nat.lt_trichotomy a.toNat b.toNat with hab | hab | hab
  ·have h1:(a < b):=UInt8.lt_iff_toNat_lt.2 hab
   have h2:¬ b < a:=fun hh=>by have:=UInt8.lt_iff_toNat_lt.1 hh; omega
   have h3:(b == a)=false:=by rw [beq_eq_false_iff_ne]; rintro rfl; omega
   simp [h1,h2,h3]
  ·have h1:a=b:=UInt8.toNat_inj.1 hab
   subst h1
   simp only [beq_self_eq_true,Bool.true_and]
   simp
   exact ih
  ·have h1:(b < a):=UInt8.lt_iff_toNat_lt.2 hab
   have h2:¬ a < b:=fun hh=>by have:=UInt8.lt_iff_toNat_lt.1 hh; omega
   have h3:(a == b)=false:=by rw [beq_eq_false_iff_ne]; rintro rfl; omega
   simp [h1,h2,h3]
theorem zr5 (k:IntKind):biN (zad k)=k.bits:=by cases k<;>rfl
theorem z1o {m u:Nat} (hm:m < 18446744073709551616):uk m u=Nat.land u m:=by
 unfold uk
 rw [zay,if_pos (by rw [Nat.blt_eq]; exact hm)]
theorem z1p {m u:Nat} (h1:¬ m < 18446744073709551616) (h2:m < 340282366920938463463374607431768211456):uk m u=(Nat.land u (m % 18446744073709551616)) % (m / 18446744073709551616):=by
 unfold uk
 rw [zay,if_neg (by rw [Nat.blt_eq]; exact h1),zay,if_pos (by rw [Nat.blt_eq]; exact h2)]
theorem z1k {m u:Nat} (h2:340282366920938463463374607431768211456≤m):uk m u=if u≤m % 18446744073709551616 then u % ((m - 340282366920938463463374607431768211456) / 18446744073709551616) else m:=by
 unfold uk
 rw [zay,if_neg (by rw [Nat.blt_eq]; omega),zay,if_neg (by rw [Nat.blt_eq]; omega),zay]
 simp only [Nat.ble_eq]
section
variable {kd:IntKind} {x y:AV} {rx ry:Value} {t:TypeId} (hi:Inv ρ h n w) (hx:rel ρ x rx) (hy:rel ρ y ry) (hne:rr≠.fail)
include hi hx hy hne
theorem z0j (e:(asInt x fun i a=>asInt y fun j b=>br (Nat.beq i (zad kd)) (br (Nat.blt b (hiN j)) (frc ((a * 2 ^ Nat.min b (biN (zad kd))) % moN (zad kd)) fun c=>k (.int (zad kd) c) h n) .fail) .fail)=rr):
  Val P (binOp .shl t rx ry) ρ h n w k rr:=by
 obtain ⟨i,a,rfl,e1⟩:=zbt e hne
 obtain ⟨j,b,rfl,e2⟩:=zbt e1 hne
 obtain ⟨h1,e3⟩:=zab e2 hne
 obtain ⟨h2,e4⟩:=zab e3 hne
 rw [Nat.beq_eq] at h1; subst h1
 rw [Nat.blt_eq] at h2
 rw [zam] at e4
 obtain ⟨p,rfl,rfl,hp⟩:=za6 hx
 obtain ⟨kj,q,rfl,rfl,rfl,hq⟩:=zdc hy
 have e5:=zcu hq
 have hq0:=e5.1.1 h2
 refine .same hi e4 (rv:=.int kd (kd.wrap (p * ((2 ^ Nat.min (encI kj q) (biN (zad kd)):Nat):Int)))) ?_ (zec (zoh _ _ _).symm)
 have e6:q.toNat=encI kj q:=by have:=e5.2 hq0; omega
 have e7:¬ q < 0:=by omega
 simp only [binOp,Op.shift,e7,if_false,Sem.run_pure,e6,zr5]
 simp
theorem z0k (e:(asInt x fun i a=>asInt y fun j b=>br (Nat.beq i (zad kd)) (br (Nat.blt b (hiN j)) (br (Nat.blt a (hiN (zad kd))) (frc (a / 2 ^ Nat.min b (biN (zad kd))) fun c=>k (.int (zad kd) c) h n) .fail) .fail) .fail)=rr):
  Val P (binOp .shr t rx ry) ρ h n w k rr:=by
 obtain ⟨i,a,rfl,e1⟩:=zbt e hne
 obtain ⟨j,b,rfl,e2⟩:=zbt e1 hne
 obtain ⟨h1,e3⟩:=zab e2 hne
 obtain ⟨h2,e4⟩:=zab e3 hne
 obtain ⟨h3,e5⟩:=zab e4 hne
 rw [Nat.beq_eq] at h1; subst h1
 rw [Nat.blt_eq] at h2 h3
 rw [zam] at e5
 obtain ⟨p,rfl,rfl,hp⟩:=za6 hx
 obtain ⟨kj,q,rfl,rfl,rfl,hq⟩:=zdc hy
 have g1:=zcu hq
 have g2:=zcu hp
 have hq0:=g1.1.1 h2
 have hp0:=g2.1.1 h3
 have e6:q.toNat=encI kj q:=by have:=g1.2 hq0; omega
 have e7:¬ q < 0:=by omega
 have hlt:encI kd p / 2 ^ Nat.min (encI kj q) (biN (zad kd)) < hiN (zad kd):=Nat.lt_of_le_of_lt (Nat.div_le_self _ _) h3
 have hr:=zek (ρ:=ρ) (zkw hlt)
 rw [zgj (Nat.lt_of_lt_of_le hlt (zlt kd))] at hr
 refine .same hi e5 ?_ hr
 simp only [binOp,Op.shift,e7,if_false,Sem.run_pure,e6,zr5]
 have e8:p=((encI kd p:Nat):Int):=(g2.2 hp0).symm
 generalize encI kd p=u at *
 subst e8
 have:((u:Int)).fdiv (2 ^ min (encI kj q) kd.bits)=((u / 2 ^ Nat.min (encI kj q) kd.bits:Nat):Int):=by
  rw [Int.fdiv_eq_ediv_of_nonneg _ (Int.le_of_lt (Int.pow_pos (by omega)))]
  simp
 rw [this]
theorem zw2 (e:andA (zad kd) x y h n k=rr):Val P (binOp .and t rx ry) ρ h n w k rr:=by
 cases x with
 | ukn i m a=>
  simp only [andA,andU] at e
  obtain ⟨j,b,rfl,e1⟩:=zbt e hne
  obtain ⟨h1,e2⟩:=zab e1 hne
  obtain ⟨h2,e3⟩:=zab e2 hne
  rw [Nat.beq_eq] at h1 h2
  subst h1; subst h2
  simp only [rel] at hx
  obtain ⟨kd',z,rfl,hk,ha,hin⟩:=hx
  have:=zeo hk; subst this
  rw [zay] at e3
  split at e3
  case isFalse hm=>
   rw [Nat.blt_eq] at hm
   obtain ⟨h4,e4⟩:=zab e3 hne
   obtain ⟨h5,e5⟩:=zab e4 hne
   rw [Nat.blt_eq] at h4
   rw [Nat.beq_eq] at h5
   rw [zam] at e5
   rw [z1p hm h4] at ha
   obtain ⟨q,rfl,hb,hq⟩:=za6 hy
   have g:=zvf kd' (BitVec.ofInt kd'.bits z &&& BitVec.ofInt kd'.bits q)
   have g':encI kd' (kd'.wrap (BitVec.ofInt kd'.bits z &&& BitVec.ofInt kd'.bits q).toNat)=Nat.land (encI kd' z) (encI kd' q):=by
    rw [g,BitVec.toNat_and,zb8,zb8]; rfl
   have hle:Nat.land (encI kd' z) (encI kd' q)≤encI kd' q:=Nat.and_le_right
   refine .same hi e5 (rv:=.int kd' (kd'.wrap (BitVec.ofInt kd'.bits z &&& BitVec.ofInt kd'.bits q).toNat)) (by simp [binOp,Op.intBits]) ?_
   simp only [rel]
   refine ⟨kd',_,rfl,rfl,?_,(zhq _ _).2⟩
   rw [g',z1k (by omega),if_pos (by omega),← hb,← h5,show m + 340282366920938463463374607431768211456 - 340282366920938463463374607431768211456=m by omega]
   exact ha
  rename_i hm
  rw [Nat.blt_eq] at hm
  obtain ⟨h3,e4⟩:=zab e3 hne
  rw [Nat.beq_eq] at h3
  rw [z1o hm] at ha
  have hx':rel ρ (.int (zad kd') (encI kd' z)) (.int kd' z):=by simp only [rel]; exact ⟨kd',z,rfl,rfl,rfl,hin⟩
  have e5:int2 (zad kd') (.int (zad kd') (encI kd' z)) (.int (zad kd') b) (fun a b=>frc (Nat.land a b) fun c=>k (.int (zad kd') c) h n)=frc (Nat.land (encI kd' z) b) fun c=>k (.int (zad kd') c) h n:=by
   simp only [int2,asInt,Nat.beq_refl]; rfl
  exact zus (kd:=kd') hi hx' hy hne (by rw [e5,zot ha h3]; exact e4)
 | _=>exact zus (kd:=kd) hi hx hy hne e
theorem z1j (e:vRem (zad kd) (hiN (zad kd)) x y k h n=rr):Val P (binOp .rem t rx ry) ρ h n w k rr:=by
 cases x with
 | ukn i m a=>
  simp only [vRem,remU] at e
  obtain ⟨j,b,rfl,e1⟩:=zbt e hne
  obtain ⟨h1,e2⟩:=zab e1 hne
  obtain ⟨h2,e3⟩:=zab e2 hne
  obtain ⟨h3,e4⟩:=zab e3 hne
  obtain ⟨h4,e5⟩:=zab e4 hne
  obtain ⟨h5,e6⟩:=zab e5 hne
  obtain ⟨h6,e7⟩:=zab e6 hne
  rw [zay] at e7
  split at e7
  ·exact absurd e7.symm hne
  rename_i h7
  obtain ⟨h8,e8⟩:=zab e7 hne
  rw [Nat.beq_eq] at h1 h2 h4 h7
  rw [Nat.ble_eq] at h3
  rw [Nat.blt_eq] at h5 h6 h8
  subst h1; subst h2
  simp only [rel] at hx
  obtain ⟨kd',z,rfl,hk,ha,hin⟩:=hx
  have:=zeo hk; subst this
  rw [z1k h3] at ha
  split at ha
  case isFalse=>omega
  rename_i hu
  rw [h4] at ha
  have hx':rel ρ (.int (zad kd') (encI kd' z)) (.int kd' z):=by simp only [rel]; exact ⟨kd',z,rfl,rfl,rfl,hin⟩
  have e5:int2 (zad kd') (.int (zad kd') (encI kd' z)) (.int (zad kd') b) (fun a b=>br (Nat.blt a (hiN (zad kd'))) (br (Nat.blt b (hiN (zad kd'))) (br (Nat.beq b 0) .fail (frc (a % b) fun c=>k (.int (zad kd') c) h n)) .fail) .fail)=k (.int (zad kd') a) h n:=by
   simp only [int2,asInt,Nat.beq_refl]
   show br (Nat.blt (encI kd' z) _) (br (Nat.blt b _) (br (Nat.beq b 0) .fail (frc (encI kd' z % b) fun c=>k (.int (zad kd') c) h n)) .fail) .fail=_
   rw [zay,if_pos (by rw [Nat.blt_eq]; omega),zay,if_pos (by rw [Nat.blt_eq]; omega),zay,if_neg (by rw [Nat.beq_eq]; exact h7),zam,ha]
  exact z0i (kd:=kd') hi hx' hy hne (by rw [e5]; exact e8)
 | _=>exact z0i (kd:=kd) hi hx hy hne e
theorem zxf (e:shrA (zad kd) (biN (zad kd)) (hiN (zad kd)) x y h n k=rr):Val P (binOp .shr t rx ry) ρ h n w k rr:=by
 cases x with
 | ukn i m a=>
  simp only [shrA,shrU] at e
  obtain ⟨j,b,rfl,e1⟩:=zbt e hne
  obtain ⟨h1,e2⟩:=zab e1 hne
  obtain ⟨h2,e3⟩:=zab e2 hne
  obtain ⟨h3,e4⟩:=zab e3 hne
  obtain ⟨h4,e5⟩:=zab e4 hne
  obtain ⟨h5,e6⟩:=zab e5 hne
  rw [Nat.beq_eq] at h1 h2
  rw [Nat.blt_eq] at h3 h4 h5
  rw [zam,zam] at e6
  subst h1
  have hkd:kd=.i64:=zeo (show zad kd=zad .i64 from h2)
  subst hkd
  simp only [rel] at hx
  obtain ⟨kd',z,rfl,hk,ha,hin⟩:=hx
  have:=zeo hk; subst this
  obtain ⟨kj,q,rfl,rfl,rfl,hq⟩:=zdc hy
  have g1:=zcu hq
  have hq0:=g1.1.1 h4
  have e7:q.toNat=encI kj q:=by have:=g1.2 hq0; omega
  have e8:¬ q < 0:=by omega
  refine .same hi e6 (rv:=.int .i64 (z.fdiv (2 ^ (encI kj q)))) ?_ ?_
  ·simp only [binOp,Op.shift,e8,if_false,Sem.run_pure,e7]
   rw [show min (encI kj q) (IntKind.bits .i64)=encI kj q from Nat.min_eq_left (by show encI kj q≤64; omega)]
  ·simp only [rel]
   refine ⟨.i64,_,rfl,rfl,?_,in_shr hin⟩
   have hm:m / 2 ^ encI kj q < 2 ^ (64 - encI kj q):=by
    rw [Nat.div_lt_iff_lt_mul (Nat.pow_pos (by omega)),← Nat.pow_add,show 64 - encI kj q + encI kj q=64 by omega]
    exact h5
   rw [z1o (Nat.lt_of_lt_of_le hm (Nat.le_trans (Nat.pow_le_pow_right (by omega) (by omega:64 - encI kj q≤64)) (by decide))),zvw hm,zyl h3]
   exact zvv (by rw [z1o h5] at ha; exact ha)
 | _=>exact z0k (kd:=kd) hi hx hy hne e
theorem zz7 (e:str2 x y (fun a s c d=>br (Nat.blt (a + c) 140737488355328) (frc (catB s c d) fun z=>k (.str (a + c) z) h n) .fail)=rr):Val P (binOp .add t rx ry) ρ h n w k rr:=by
 cases x<;>try exact absurd e.symm hne
 cases y<;>try exact absurd e.symm hne
 obtain ⟨h1,e1⟩:=zab e hne
 rw [Nat.blt_eq] at h1
 rw [zam] at e1
 simp only [rel] at hx hy
 obtain ⟨s,rfl,hs⟩:=hx
 obtain ⟨u,rfl,hu⟩:=hy
 refine .same hi e1 (rv:=.string (s ++ u)) ?_ ?_
 ·have e2:¬ (((s.size + u.size:Nat):Int) > IntKind.i64.max):=by
   rw [(zb0 _).2]
   have:=hs.1; have:=hu.1
   rw [Lib.size_eq,Lib.size_eq]; simp only; omega
  simp only [binOp,Op.stringOp,e2,if_false,Sem.run_pure]
 ·simp only [rel]
  refine ⟨_,rfl,?_⟩
  have:=zfp hs hu
  simpa using this
theorem zu3 (e:str2 x y (fun a s c d=>k (.bool (ltB a s c d)) h n)=rr):Val P (binOp .lss t rx ry) ρ h n w k rr:=by
 cases x<;>try exact absurd e.symm hne
 cases y<;>try exact absurd e.symm hne
 simp only [rel] at hx hy
 obtain ⟨s,rfl,hs⟩:=hx
 obtain ⟨u,rfl,hu⟩:=hy
 refine .same hi e (rv:=.bool (Op.bytesLess s.data.toList u.data.toList)) ?_ ?_
 ·simp [binOp,Op.stringOp,ByteArray.toList_eq]
 ·rw [zxs hs hu]; exact zbr _
theorem zux (e:str2 x y (fun a s c d=>k (.bool (!ltB c d a s)) h n)=rr):Val P (binOp .leq t rx ry) ρ h n w k rr:=by
 cases x<;>try exact absurd e.symm hne
 cases y<;>try exact absurd e.symm hne
 simp only [rel] at hx hy
 obtain ⟨s,rfl,hs⟩:=hx
 obtain ⟨u,rfl,hu⟩:=hy
 refine .same hi e (rv:=.bool (!(Op.bytesLess u.data.toList s.data.toList))) ?_ ?_
 ·have:(Op.bytesLess s.data.toList u.data.toList || s.data.toList == u.data.toList)=!(Op.bytesLess u.data.toList s.data.toList):=by
   exact zpl _ _
  simp only [binOp,Op.stringOp,ByteArray.toList_eq,this,Sem.run_pure]
 ·rw [zxs hu hs]; exact zbr _
end
end
end
end Go.VE
