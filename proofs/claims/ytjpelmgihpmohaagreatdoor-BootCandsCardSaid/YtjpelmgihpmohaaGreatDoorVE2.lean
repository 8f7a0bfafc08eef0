/- The evaluator, part 2: definitions and their laws, over any program. No condition. -/
import Derived.Test.YtjpelmgihpmohaaGreatDoorVE1
set_option linter.all false
namespace Go.VE
noncomputable section
theorem zb2 {β:Type} (a b:β):br true a b=a:=rfl
theorem zbe {β:Type} (a b:β):br false a b=b:=rfl
theorem zay {β:Type} (c:Bool) (a b:β):br c a b=if c=true then a else b:=by cases c<;>rfl
theorem zam {β:Type} (x:Nat) (k:Nat→β):frc x k=k x:=by cases x<;>rfl
theorem T.get_nil {α:Type} (k:Nat):(T.nil:T α).get k=none:=rfl
theorem T.get_node {α:Type} (l:T α) (v:Option α) (r:T α) (k:Nat):
  (T.node l v r).get k=if k=1 then v else if k % 2=0 then l.get (k / 2) else r.get (k / 2):=by
 show br (Nat.beq k 1) v (br (Nat.beq (k % 2) 0) (l.get (k / 2)) (r.get (k / 2)))=_
 rw [zay,zay]
 simp [Nat.beq_eq]
theorem T.one_succ {α:Type} (v:Option α) (f k:Nat):
  T.one v (f + 1) k=if k=1 then .node .nil v .nil else if k % 2=0 then .node (T.one v f (k / 2)) none .nil else .node .nil none (T.one v f (k / 2)):=by
 show br (Nat.beq k 1) _ (br (Nat.beq (k % 2) 0) _ _)=_
 rw [zay,zay]
 simp [Nat.beq_eq]; rfl
theorem T.put_nil {α:Type} (v:Option α) (k:Nat):(T.nil:T α).put v k=T.one v 64 k:=rfl
theorem T.put_node {α:Type} (v:Option α) (l:T α) (w:Option α) (r:T α) (k:Nat):
  (T.node l w r).put v k=if k=1 then .node l v r else if k % 2=0 then .node (l.put v (k / 2)) w r else .node l w (r.put v (k / 2)):=by
 show br (Nat.beq k 1) _ (br (Nat.beq (k % 2) 0) _ _)=_
 rw [zay,zay]
 simp [Nat.beq_eq]; rfl
theorem T.get_one {α:Type} (v:Option α):∀ (f k j:Nat),1≤k→1≤j→k < 2 ^ f→(T.one v f k).get j=if j=k then v else none
 | 0,k,j,h1,_,h2=>by simp at h2; omega
 | f + 1,k,j,h1,hj,h2=>by
  rw [T.one_succ]
  by_cases hk:k=1
  ·subst hk
   simp only [if_true,T.get_node,T.get_nil]
   by_cases hj1:j=1<;>simp [hj1]
  ·rw [if_neg hk]
   have hk2:1≤k / 2:=by omega
   have hkf:k / 2 < 2 ^ f:=by rw [Nat.pow_succ] at h2; omega
   by_cases he:k % 2=0
   ·rw [if_pos he,T.get_node]
    by_cases hj1:j=1
    ·rw [if_pos hj1,if_neg (by omega)]
    ·rw [if_neg hj1]
     by_cases hje:j % 2=0
     ·rw [if_pos hje,T.get_one v f (k / 2) (j / 2) hk2 (by omega) hkf]
      by_cases hjk:j=k
      ·subst hjk; simp
      ·rw [if_neg (by omega),if_neg hjk]
     ·rw [if_neg hje,T.get_nil,if_neg (by omega)]
   ·rw [if_neg he,T.get_node]
    by_cases hj1:j=1
    ·rw [if_pos hj1,if_neg (by omega)]
    ·rw [if_neg hj1]
     by_cases hje:j % 2=0
     ·rw [if_pos hje,T.get_nil,if_neg (by omega)]
     ·rw [if_neg hje,T.get_one v f (k / 2) (j / 2) hk2 (by omega) hkf]
      by_cases hjk:j=k
      ·subst hjk; simp
      ·rw [if_neg (by omega),if_neg hjk]
theorem T.get_put {α:Type} (v:Option α) (t:T α):∀ (k j:Nat),1≤k→1≤j→k < 2 ^ 64→(t.put v k).get j=if j=k then v else t.get j:=by
 induction t with
 | nil=>intro k j h1 hj h2; rw [T.put_nil,T.get_one v 64 k j h1 hj h2,T.get_nil]
 | node l w r ihl ihr=>
  intro k j h1 hj h2
  rw [T.put_node]
  by_cases hk:k=1
  ·subst hk
   rw [if_pos rfl,T.get_node,T.get_node]
   by_cases hj1:j=1<;>simp [hj1]
  ·rw [if_neg hk]
   by_cases he:k % 2=0
   ·rw [if_pos he,T.get_node,T.get_node]
    by_cases hj1:j=1
    ·rw [if_pos hj1,if_neg (by omega),if_pos hj1]
    ·rw [if_neg hj1,if_neg hj1]
     by_cases hje:j % 2=0
     ·rw [if_pos hje,if_pos hje,ihl (k / 2) (j / 2) (by omega) (by omega) (by omega)]
      by_cases hjk:j=k
      ·subst hjk; simp
      ·rw [if_neg (by omega),if_neg hjk]
     ·rw [if_neg hje,if_neg hje,if_neg (by omega)]
   ·rw [if_neg he,T.get_node,T.get_node]
    by_cases hj1:j=1
    ·rw [if_pos hj1,if_neg (by omega),if_pos hj1]
    ·rw [if_neg hj1,if_neg hj1]
     by_cases hje:j % 2=0
     ·rw [if_pos hje,if_pos hje,if_neg (by omega)]
     ·rw [if_neg hje,if_neg hje,ihr (k / 2) (j / 2) (by omega) (by omega) (by omega)]
      by_cases hjk:j=k
      ·subst hjk; simp
      ·rw [if_neg (by omega),if_neg hjk]
theorem lt16 {i:Nat} (h:i < 16):i=0∨i=1∨i=2∨i=3∨i=4∨i=5∨i=6∨i=7∨i=8∨i=9∨i=10∨i=11∨i=12∨i=13∨i=14∨i=15:=by omega
def top:Nat:=18446744073709551615
theorem zun {k:Nat} (h:k < top):k + 1 < 2 ^ 64:=by unfold top at h; omega
def z0z (b c m1 m2:Nat):Prop:=Nat.beq (Nat.land c m1) 0=Nat.beq (Nat.land b m1) 0∧Nat.beq (Nat.land c m2) 0=Nat.beq (Nat.land b m2) 0
theorem z0v (b m1 m2:Nat):z0z b b m1 m2:=⟨rfl,rfl⟩
theorem z0u {α:Type} {b c m1 m2:Nat} (f:α→α) (t:Q4 α) (e:z0z b c m1 m2):Q4.sel c m1 m2 (Q4.upd b m1 m2 f t)=f (Q4.sel c m1 m2 t):=by
 obtain ⟨e1,e2⟩:=e
 cases t
 unfold Q4.sel Q4.upd
 rw [e1,e2]
 cases Nat.beq (Nat.land b m1) 0<;>cases Nat.beq (Nat.land b m2) 0<;>rfl
theorem z0y {α:Type} {b c m1 m2:Nat} (f:α→α) (t:Q4 α) (e:¬ z0z b c m1 m2):Q4.sel c m1 m2 (Q4.upd b m1 m2 f t)=Q4.sel c m1 m2 t:=by
 unfold z0z at e
 cases t
 unfold Q4.sel Q4.upd
 cases h1:Nat.beq (Nat.land b m1) 0<;>cases h2:Nat.beq (Nat.land b m2) 0<;>cases h3:Nat.beq (Nat.land c m1) 0<;>cases h4:Nat.beq (Nat.land c m2) 0<;>first | rfl | (rw [h1,h2,h3,h4] at e; exact absurd ⟨rfl,rfl⟩ e)
theorem z0x {α:Type} (c m1 m2:Nat) (x:α):Q4.sel c m1 m2 (.mk x x x x)=x:=by
 unfold Q4.sel
 cases Nat.beq (Nat.land c m1) 0<;>cases Nat.beq (Nat.land c m2) 0<;>rfl
theorem z1c (c:Nat):z02 c nil8=none:=by
 unfold z02 nil8; rw [z0x]
 unfold nil7; rw [z0x]
 unfold nil6; rw [z0x]
 unfold nil5; rw [z0x]
 unfold nil4; rw [z0x]
 unfold nil3; rw [z0x]
 unfold nil2; rw [z0x]
 unfold nil1; rw [z0x]
theorem z06 (b:Nat) (x:Option AO) (t:M8):z02 b (z07 b x t)=x:=by
 unfold z02 z07
 rw [z0u _ _ (z0v _ _ _),z0u _ _ (z0v _ _ _),z0u _ _ (z0v _ _ _),z0u _ _ (z0v _ _ _),z0u _ _ (z0v _ _ _),z0u _ _ (z0v _ _ _),z0u _ _ (z0v _ _ _),z0u _ _ (z0v _ _ _)]
theorem z09 (k i:Nat):Nat.beq (Nat.land k (2 ^ i)) 0=!k.testBit i:=by
 have hb:∀ j,(Nat.land k (2 ^ i)).testBit j=(k.testBit j && decide (i=j)):=fun j=>by
  show (k &&& 2 ^ i).testBit j=_
  rw [Nat.testBit_and,Nat.testBit_two_pow]
 cases hk:k.testBit i with
 | true=>
  cases hz:Nat.beq (Nat.land k (2 ^ i)) 0 with
  | false=>rfl
  | true=>
   have h0:=Nat.eq_of_beq_eq_true hz
   have:=hb i
   rw [h0,hk,Nat.zero_testBit] at this
   simp at this
 | false=>
  have h0:Nat.land k (2 ^ i)=0:=Nat.eq_of_testBit_eq fun j=>by
   rw [hb,Nat.zero_testBit]
   by_cases e:i=j
   ·subst e; rw [hk]; rfl
   ·simp [e]
  rw [h0]; rfl
theorem z1h {b c:Nat} (x:Option AO) (t:M8) (hb:b≤65535) (hc:c≤65535) (hn:c≠b):z02 c (z07 b x t)=z02 c t:=by
 unfold z02 z07
 by_cases e8:z0z b c 16384 32768
 ·rw [z0u _ _ e8]
  by_cases e7:z0z b c 4096 8192
  ·rw [z0u _ _ e7]
   by_cases e6:z0z b c 1024 2048
   ·rw [z0u _ _ e6]
    by_cases e5:z0z b c 256 512
    ·rw [z0u _ _ e5]
     by_cases e4:z0z b c 64 128
     ·rw [z0u _ _ e4]
      by_cases e3:z0z b c 16 32
      ·rw [z0u _ _ e3]
       by_cases e2:z0z b c 4 8
       ·rw [z0u _ _ e2]
        by_cases e1:z0z b c 1 2
        ·refine absurd (Nat.eq_of_testBit_eq fun i=>?_) hn
         have key:∀ j,Nat.beq (Nat.land c (2 ^ j)) 0=Nat.beq (Nat.land b (2 ^ j)) 0→c.testBit j=b.testBit j:=fun j e=>by
          rw [z09,z09] at e
          cases h1:c.testBit j<;>cases h2:b.testBit j<;>rw [h1,h2] at e<;>first | rfl | cases e
         by_cases hi:i < 16
         ·rcases lt16 hi with rfl | rfl | rfl | rfl | rfl | rfl | rfl | rfl | rfl | rfl | rfl | rfl | rfl | rfl | rfl | rfl
          ·exact key 0 e1.1
          ·exact key 1 e1.2
          ·exact key 2 e2.1
          ·exact key 3 e2.2
          ·exact key 4 e3.1
          ·exact key 5 e3.2
          ·exact key 6 e4.1
          ·exact key 7 e4.2
          ·exact key 8 e5.1
          ·exact key 9 e5.2
          ·exact key 10 e6.1
          ·exact key 11 e6.2
          ·exact key 12 e7.1
          ·exact key 13 e7.2
          ·exact key 14 e8.1
          ·exact key 15 e8.2
         ·have hp:(2:Nat) ^ 16≤2 ^ i:=Nat.pow_le_pow_right (by decide) (by omega)
          have h16:(2:Nat) ^ 16=65536:=by decide
          rw [Nat.testBit_lt_two_pow (show c < 2 ^ i by omega),Nat.testBit_lt_two_pow (show b < 2 ^ i by omega)]
        ·rw [z0y _ _ e1]
       ·rw [z0y _ _ e2]
      ·rw [z0y _ _ e3]
     ·rw [z0y _ _ e4]
    ·rw [z0y _ _ e5]
   ·rw [z0y _ _ e6]
  ·rw [z0y _ _ e7]
 ·rw [z0y _ _ e8]
theorem z00 (lo:M8) (hi:T AO) (b:Nat):getO (.mk lo hi) b=if b≤65535 then z02 b lo else hi.get (b + 1):=by
 show br (Nat.ble b 65535) _ _=_
 rw [zay]
 simp [Nat.ble_eq]
theorem z1n (lo:M8) (hi:T AO) (b:Nat) (x:Option AO):putM (.mk lo hi) b x=if b≤65535 then .mk (z07 b x lo) hi else .mk lo (hi.put x (b + 1)):=by
 show br (Nat.ble b 65535) _ _=_
 rw [zay]
 simp [Nat.ble_eq]
theorem z03 {h:H} {b c:Nat} {x:Option AO} (hb:b < top):getO (putM h b x) c=if c=b then x else getO h c:=by
 obtain ⟨lo,hi⟩:=h
 rw [z1n]
 by_cases b1:b≤65535
 ·rw [if_pos b1,z00,z00]
  by_cases c1:c≤65535
  ·rw [if_pos c1,if_pos c1]
   by_cases hcb:c=b
   ·rw [if_pos hcb,hcb,z06]
   ·rw [if_neg hcb,z1h x lo b1 c1 hcb]
  ·rw [if_neg c1,if_neg c1,if_neg (by omega)]
 ·rw [if_neg b1,z00,z00]
  by_cases c1:c≤65535
  ·rw [if_pos c1,if_pos c1,if_neg (by omega)]
  ·rw [if_neg c1,if_neg c1,T.get_put _ _ _ _ (by omega) (by omega) (zun hb)]
   by_cases hcb:c=b
   ·rw [if_pos (by omega),if_pos hcb]
   ·rw [if_neg (by omega),if_neg hcb]
theorem z0w (b:Nat):getO (Mem.nil:H) b=none:=by
 show getO (.mk nil8 .nil) b=none
 rw [z00,z1c,T.get_nil]
 split<;>rfl
theorem za8 {h:H} {b c:Nat} {o:AO} (hb:b < top):getO (setO h b o) c=if c=b then some o else getO h c:=z03 hb
theorem zdu {h:H} {b c:Nat} (hb:b < top):getO (zey h b) c=if c=b then none else getO h c:=z03 hb
theorem zdt {t:T AV} {i j:Nat} {v:AV} (hi:i < top):zag (t.put (some v) (i + 1)) j=if j=i then v else zag t j:=by
 unfold zag
 rw [T.get_put _ _ _ _ (by omega) (by omega) (zun hi)]
 by_cases hj:j=i
 ·subst hj; simp [orU]
 ·rw [if_neg (by omega),if_neg hj]
theorem zy7 (cx:Cx) (d:Nat):(lv cx d).iter=cx.iter:=by cases d<;>rfl
theorem Lf.at_up (l:Lf) (x:AV) {i j:Nat} (hi:i < 16) (hj:j < 16):(l.up j x).at i=if i=j then x else l.at i:=by
 cases l
 rcases lt16 hj with rfl | rfl | rfl | rfl | rfl | rfl | rfl | rfl | rfl | rfl | rfl | rfl | rfl | rfl | rfl | rfl<;>rcases lt16 hi with rfl | rfl | rfl | rfl | rfl | rfl | rfl | rfl | rfl | rfl | rfl | rfl | rfl | rfl | rfl | rfl<;>rfl
theorem Ev.at_up (l:Ev) (x:Lf→Lf) {i j:Nat} (hi:i < 16) (hj:j < 16):(l.up j x).at i=if i=j then x (l.at j) else l.at i:=by
 cases l
 rcases lt16 hj with rfl | rfl | rfl | rfl | rfl | rfl | rfl | rfl | rfl | rfl | rfl | rfl | rfl | rfl | rfl | rfl<;>rcases lt16 hi with rfl | rfl | rfl | rfl | rfl | rfl | rfl | rfl | rfl | rfl | rfl | rfl | rfl | rfl | rfl | rfl<;>rfl
theorem Lf.at_nil {i:Nat} (hi:i < 16):Lf.nil.at i=.undef:=by
 rcases lt16 hi with rfl | rfl | rfl | rfl | rfl | rfl | rfl | rfl | rfl | rfl | rfl | rfl | rfl | rfl | rfl | rfl<;>rfl
theorem Ev.at_nil {i:Nat} (hi:i < 16):Ev.nil.at i=.nil:=by
 rcases lt16 hi with rfl | rfl | rfl | rfl | rfl | rfl | rfl | rfl | rfl | rfl | rfl | rfl | rfl | rfl | rfl | rfl<;>rfl
theorem zyh (k:Nat):eAt k .nil=.undef:=by
 rw [zsf]
 rw [zay]
 split
 ·rename_i h
  rw [Nat.blt_eq] at h
  rw [Ev.at_nil (by omega),Lf.at_nil (by omega)]
 ·rfl
theorem zji {e:Env} {v:AV} {k j:Nat} (hk:k < 256):eAt j (ePut v k e)=if j=k then v else eAt j e:=by
 simp only [zsf,zve]
 cases hb:Nat.blt j 256 with
 | true=>
  rw [Nat.blt_eq] at hb
  rw [zb2,zb2,Ev.at_up _ _ (by omega) (by omega)]
  by_cases e1:j / 16=k / 16
  ·rw [if_pos e1,Lf.at_up _ _ (by omega) (by omega),e1]
   by_cases e2:j=k
   ·rw [if_pos e2,if_pos (by omega)]
   ·rw [if_neg e2,if_neg (by omega)]
  ·rw [if_neg e1,if_neg (fun h=>e1 (by rw [h]))]
 | false=>
  have:¬ j < 256:=fun h=>by rw [← Nat.blt_eq,hb] at h; cases h
  rw [zbe,zbe,if_neg (by omega)]
end
end Go.VE
namespace Go.VE
noncomputable section
theorem zhf (l:List UInt8):∀ x,zb3 l x=x * 256 ^ l.length + zb3 l 0:=by
 induction l with
 | nil=>intro x; simp [zb3]
 | cons b l ih=>
  intro x
  simp only [zb3,List.length_cons]
  rw [ih,ih (0 * 256 + b.toNat)]
  rw [Nat.pow_succ,Nat.add_mul,Nat.zero_mul,Nat.zero_add,Nat.mul_assoc,Nat.mul_comm 256]; omega
theorem zhg (l:List UInt8):zb3 l 0 < 256 ^ l.length:=by
 induction l with
 | nil=>simp [zb3]
 | cons b l ih=>
  simp only [zb3,List.length_cons]
  rw [zhf,Nat.pow_succ]
  have hb:b.toNat < 256:=b.toNat_lt
  have:(0 * 256 + b.toNat) * 256 ^ l.length≤255 * 256 ^ l.length:=Nat.mul_le_mul_right _ (by omega)
  omega
theorem zfo (a b:List UInt8):zb3 (a ++ b) 0=zb3 a 0 * 256 ^ b.length + zb3 b 0:=by
 have:∀ x,zb3 (a ++ b) x=zb3 b (zb3 a x):=by
  induction a with
  | nil=>intro x; rfl
  | cons c a ih=>intro x; simp only [List.cons_append,zb3]; exact ih _
 rw [this,zhf]
def zb6 (l:List UInt8) (n x:Nat):Prop:=l.length=n∧zb3 l 0=x
theorem zni:zb6 [] 0 0:=⟨rfl,rfl⟩
theorem zfp {a b:List UInt8} {n x m y:Nat} (ha:zb6 a n x) (hb:zb6 b m y):zb6 (a ++ b) (n + m) (catB x m y):=by
 obtain ⟨rfl,rfl⟩:=ha; obtain ⟨rfl,rfl⟩:=hb
 refine ⟨by simp,?_⟩
 rw [zfo]; rw [zln]
 rw [Nat.shiftLeft_eq,Nat.pow_mul]
theorem zqi (m:Nat):2 ^ (8 * m)=256 ^ m:=by rw [Nat.pow_mul]
theorem zrl {l:List UInt8} {n x r:Nat} (h:zb6 l n x) (hr:r≤n):zb6 (l.take r) r (x / 256 ^ (n - r)):=by
 obtain ⟨rfl,rfl⟩:=h
 refine ⟨by simp; omega,?_⟩
 have h1:=zfo (l.take r) (l.drop r)
 rw [List.take_append_drop] at h1
 have h2:=zhg (l.drop r)
 rw [List.length_drop] at h1 h2
 rw [h1,Nat.mul_comm,Nat.mul_add_div (Nat.pow_pos (by omega)),Nat.div_eq_of_lt h2]; rfl
theorem zrk {l:List UInt8} {n x r:Nat} (h:zb6 l n x) (hr:r≤n):zb6 (l.drop r) (n - r) (x % 256 ^ (n - r)):=by
 obtain ⟨rfl,rfl⟩:=h
 refine ⟨by simp,?_⟩
 have h1:=zfo (l.take r) (l.drop r)
 rw [List.take_append_drop] at h1
 have h2:=zhg (l.drop r)
 rw [List.length_drop] at h1 h2
 rw [h1,Nat.mul_comm,Nat.mul_add_mod,Nat.mod_eq_of_lt h2]
theorem zdj {l:List UInt8} {n x a b:Nat} (h:zb6 l n x) (hab:a≤b) (hb:b≤n):zb6 ((l.take b).drop a) (b - a) (cutB n x a b):=by
 have h1:=zrk (zrl h hb) (r:=a) hab
 refine ⟨h1.1,?_⟩
 rw [h1.2,zg3]
 rw [Nat.shiftRight_eq_div_pow,zqi,zqi]
theorem zdg {l:List UInt8} {n x i:Nat} (h:zb6 l n x) (hi:i < n):zar n x i=(l[i]'(by rw [h.1]; exact hi)).toNat:=by
 have h1:=zdj h (a:=i) (b:=i + 1) (by omega) (by omega)
 have h2:(l.take (i + 1)).drop i=[l[i]'(by rw [h.1]; exact hi)]:=by
  have hl:=h.1
  rw [List.drop_take,show i + 1 - i=1 by omega,List.drop_eq_getElem_cons (by omega)]
  rfl
 rw [h2] at h1
 have h3:=h1.2
 rw [zg3] at h3
 rw [zq1]
 have e1:n - 1 - i=n - (i + 1):=by omega
 have e2:i + 1 - i=1:=by omega
 rw [e2] at h3
 rw [e1,← show (2 ^ (8 * 1))=256 from rfl,← h3]
 simp [zb3]
theorem zcs (n x i:Nat):zar n x i < 256:=Nat.mod_lt _ (by omega)
theorem zjw {c:Nat} (h:c < 256):zb6 [UInt8.ofNat c] 1 c:=by
 refine ⟨rfl,?_⟩
 simp [zb3]; omega
theorem zhh {l m:List UInt8} {n x off k y:Nat} (h:zb6 l n x) (hm:zb6 m k y) (ho:off + k≤n):
  zb6 (l.take off ++ m ++ l.drop (off + k)) n (layB n x off k y):=by
 have hl:=h.1
 have h1:=zdj h (a:=0) (b:=off) (by omega) (by omega)
 have h2:=zdj h (a:=off + k) (b:=n) (by omega) (by omega)
 have h3:=zfp (zfp h1 hm) h2
 have e1:off - 0 + k + (n - (off + k))=n:=by omega
 have e2:n - (off + k)=n - off - k:=by omega
 rw [e1] at h3
 simp only [List.drop_zero] at h3
 rw [List.take_of_length_le (by omega:l.length≤n)] at h3
 unfold layB
 rw [← e2]
 exact h3
theorem znh {l m:List UInt8} {n x:Nat} (h1:zb6 l n x) (h2:zb6 m n x):l=m:=by
 apply List.ext_getElem
 ·rw [h1.1,h2.1]
 ·intro i hi hj
  have hi':i < n:=by rw [← h1.1]; exact hi
  have e1:=zdg h1 hi'
  have e2:=zdg h2 hi'
  exact UInt8.toNat_inj.1 (by rw [← e1,← e2])
theorem zl6 {l m:List UInt8} {n x k y:Nat} (h1:zb6 l n x) (h2:zb6 m k y):(l=m) ↔ (n=k∧x=y):=by
 constructor
 ·rintro rfl; exact ⟨h1.1.symm.trans h2.1,h1.2.symm.trans h2.2⟩
 ·rintro ⟨rfl,rfl⟩; exact znh h1 h2
theorem zdv (n:Nat):zb6 (List.replicate n 0) n 0:=by
 refine ⟨by simp,?_⟩
 induction n with
 | zero=>rfl
 | succ n ih=>simp [List.replicate_succ,zb3,ih]
theorem zg2:∀ (a b:List UInt8),Op.bytesLess a b=true ↔
  zb3 a 0 * 256 ^ (max a.length b.length - a.length) < zb3 b 0 * 256 ^ (max a.length b.length - b.length)∨
  (zb3 a 0 * 256 ^ (max a.length b.length - a.length)=zb3 b 0 * 256 ^ (max a.length b.length - b.length)∧a.length < b.length)
 | a,[]=>by
  simp only [Op.bytesLess,Bool.false_eq_true,false_iff]
  simp [zb3]
 | [],b :: l=>by
  simp only [Op.bytesLess,true_iff]
  simp only [zb3,List.length_nil,Nat.zero_mul,List.length_cons]
  rcases Nat.eq_zero_or_pos (zb3 l (0 * 256 + b.toNat) * 256 ^ (max 0 (l.length + 1) - (l.length + 1))) with h | h
  ·right; exact ⟨by simpa using h.symm,by omega⟩
  ·left; simpa using h
 | a :: l,b :: m=>by
  have ih:=zg2 l m
  have hl:=zhg l
  have hm:=zhg m
  simp only [Op.bytesLess,List.length_cons]
  have ea:zb3 (a :: l) 0=a.toNat * 256 ^ l.length + zb3 l 0:=by simp only [zb3]; rw [zhf]; simp
  have eb:zb3 (b :: m) 0=b.toNat * 256 ^ m.length + zb3 m 0:=by simp only [zb3]; rw [zhf]; simp
  rw [ea,eb]
  have emax:max (l.length + 1) (m.length + 1)=max l.length m.length + 1:=by omega
  rw [emax]
  have e1:max l.length m.length + 1 - (l.length + 1)=max l.length m.length - l.length:=by omega
  have e2:max l.length m.length + 1 - (m.length + 1)=max l.length m.length - m.length:=by omega
  rw [e1,e2]
  generalize hM:max l.length m.length=M at *
  have pA:256 ^ l.length * 256 ^ (M - l.length)=256 ^ M:=by rw [← Nat.pow_add]; congr 1; omega
  have pB:256 ^ m.length * 256 ^ (M - m.length)=256 ^ M:=by rw [← Nat.pow_add]; congr 1; omega
  have hl2:zb3 l 0 * 256 ^ (M - l.length) < 256 ^ M:=by rw [← pA]; exact Nat.mul_lt_mul_of_pos_right hl (Nat.pow_pos (by omega))
  have hm2:zb3 m 0 * 256 ^ (M - m.length) < 256 ^ M:=by rw [← pB]; exact Nat.mul_lt_mul_of_pos_right hm (Nat.pow_pos (by omega))
  rw [Nat.add_mul,Nat.add_mul,Nat.mul_assoc,Nat.mul_assoc,pA,pB]
  generalize zb3 l 0 * 256 ^ (M - l.length)=p at *
  generalize zb3 m 0 * 256 ^ (M - m.length)=q at *
  generalize 256 ^ M=Z at *
  rcases Nat.lt_trichotomy a.toNat b.toNat with hab | hab | hab
  ·have h1:(a < b)=True:=by simp [UInt8.lt_iff_toNat_lt,hab]
   have:(a.toNat + 1) * Z≤b.toNat * Z:=Nat.mul_le_mul_right _ hab
   rw [Nat.add_mul] at this
   simp only [h1,decide_true,Bool.true_or,true_iff]
   left; omega
  ·have h1:a=b:=UInt8.toNat_inj.1 hab
   subst h1
   have h2:decide (a < a)=false:=by simp
   rw [h2]
   simp only [Bool.false_or,beq_self_eq_true,Bool.true_and]
   rw [ih]
   constructor<;>(rintro (h | h)<;>first | (left; omega) | (right; omega))
  ·have h1:decide (a < b)=false:=by simp [UInt8.lt_iff_toNat_lt]; omega
   have h2:(a == b)=false:=by
    rw [beq_eq_false_iff_ne]; intro h; rw [h] at hab; omega
   have:(b.toNat + 1) * Z≤a.toNat * Z:=Nat.mul_le_mul_right _ hab
   rw [Nat.add_mul] at this
   rw [h1,h2]
   simp only [Bool.false_or,Bool.false_and,Bool.false_eq_true,false_iff]
   omega
theorem zxs {a b:List UInt8} {n x m y:Nat} (ha:zb6 a n x) (hb:zb6 b m y):ltB n x m y=Op.bytesLess a b:=by
 have h:=zg2 a b
 rw [ha.1,hb.1,ha.2,hb.2] at h
 unfold ltB
 rw [zay,zay]
 simp only [Nat.shiftLeft_eq,zqi]
 have e:Nat.max n m=max n m:=rfl
 rw [e]
 rw [Bool.eq_iff_iff,h]
 by_cases h1:x * 256 ^ (max n m - n) < y * 256 ^ (max n m - m)
 ·simp [h1]
 ·by_cases h2:x * 256 ^ (max n m - n)=y * 256 ^ (max n m - m)
  ·simp [h2,Nat.blt_eq]
  ·simp [h1,h2,Nat.beq_eq,Nat.blt_eq]
end
end Go.VE
