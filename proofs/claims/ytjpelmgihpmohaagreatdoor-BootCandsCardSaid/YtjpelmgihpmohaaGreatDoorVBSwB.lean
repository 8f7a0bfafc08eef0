/- A part of the proof of BootCands: the program run by the evaluator. No condition. -/
import Derived.Test.YtjpelmgihpmohaaGreatDoorVBSwA
set_option linter.all false
namespace Go.Proofs
noncomputable section
noncomputable section
open Go Go.VE
set_option maxRecDepth 100000
set_option maxHeartbeats 1000000
set_option linter.all false
theorem cel_of {h:H} {b i m es:Nat} {t:T AV} (hg:getO h b=some (.cells m es t)) (hi:i < m):cel h b i=zag t i:=by
 unfold cel
 rw [hg]
 show br (Nat.blt i m) (zag t i) .undef=_
 rw [y_bltT hi]; rfl
theorem bytes128_of {m y f:Nat} (h:f + 128≤m):zg1 (some (.bytes m y)) f=some (cutB m y f (f + 128)):=by
 show br (Nat.ble (f + 128) m) _ none=_
 rw [y_bleT h]; rfl
theorem slV_of {h:H} {n b o c m y:Nat} {e:Bool} (hb:b < n) (hg:getO h b=some (.bytes m y)) (ho:o + 128≤m):slV h n (.sl b o 128 c e)=some (cutB m y o (o + 128)):=by
 show br (Nat.beq 128 128) (br (Nat.blt b n) (zg1 (getO h b) o) none) none=_
 rw [hg,bytes128_of ho,y_bltT hb]; rfl
theorem dRd_of {h:H} {n db no x:Nat} (f:DF h n db no x):dRd h n db no=some x:=by
 obtain ⟨m,es,t,s,f,len,cap,xx,ms,ess,ts,r1,r2,r3,r4,r5,r6,r7,r8,r9,r10,r11⟩:=f.out
 unfold dRd
 rw [cel_of r1 (by omega),cel_of r1 (by omega),r3,r4]
 show br false none (br (Nat.blt no len) (br (bd len) (br (Nat.blt db n) (br (Nat.blt s n) (blkV h n (cel h s (f + no))) none) none) none) none)=_
 unfold bd
 rw [y_bltT r5,y_bltT r6,y_bltT r7,y_bltT r8,cel_of r9 r10]
 show blkV h n (zag ts (f + no))=_
 rcases r11 with ⟨e1,e2⟩ | ⟨b,o,c,e,mb,xb,e1,e2,e3,e4,e5⟩
 ·rw [e1,e2]; rfl
 ·rw [e1,e5]
  exact slV_of (c:=c) (e:=e) e2 e3 e4
theorem cRd_of {h:H} {n c no:Nat} {p:Bool × Nat} (f:CF h n c no p):cRd h n c no=some p:=by
 obtain ⟨mc,ec,tc,j,B,mb,l,g1,g2,g3,g4,g5,g6,g7,g8,g9,g10,g11,g12,hcase⟩:=f.out
 unfold cRd
 rw [cel_of g1 (by omega),cel_of g1 (by omega),cel_of g1 (by omega),g3,g4,g5]
 show br (Nat.beq 0 0) (br (Nat.beq 3 3) (br (bd B) (br (Nat.blt no B) (br (Nat.blt no 640) (br (Nat.blt c n) (br (Nat.blt j n) (br (Nat.blt mb n) (cRd2 h n j no (zvl no (getO h mb))) none) none) none) none) none) none) none) none=_
 unfold bd
 rw [y_bltT g6,y_bltT g7,y_bltT g8,y_bltT g9,y_bltT g10,y_bltT g11,g12]
 show cRd2 h n j no (zg5 (.int 3 no) l)=_
 obtain ⟨b,x⟩:=p
 rcases hcase with ⟨q0,q1,db,mj,ej,tj,q2,q3,q4,q5⟩ | ⟨q0,b,o,cc,e',m',x',q1,q2,q3,q4,q5⟩
 ·rw [q1]
  show tagO false (jRd h n j no)=_
  unfold jRd
  rw [cel_of q2 q3,q4]
  show tagO false (br (Nat.beq 0 0) (dRd h n db no) none)=_
  rw [dRd_of q5]
  simp only at q0
  rw [q0]; rfl
 ·rw [q1]
  show tagO true (slV h n (.sl b o 128 cc e'))=_
  rw [slV_of q2 q3 q4]
  simp only at q0 q5
  rw [q0,q5]; rfl
theorem DF.mono {h h':H} {n n' db no x:Nat} (f:DF h n db no x) (hf:∀ b,b < n→getO h' b=getO h b) (hn:n≤n'):DF h' n' db no x:=by
 obtain ⟨m,es,t,s,f,len,cap,xx,ms,ess,ts,r1,r2,r3,r4,r5,r6,r7,r8,r9,r10,r11⟩:=f.out
 refine ⟨m,es,t,s,f,len,cap,xx,ms,ess,ts,by rw [hf _ r7]; exact r1,r2,r3,r4,r5,r6,by omega,by omega,by rw [hf _ r8]; exact r9,r10,r11.imp id ?_⟩
 rintro ⟨b,o,c,e,mb,xb,e1,e2,e3,e4,e5⟩
 exact ⟨b,o,c,e,mb,xb,e1,by omega,by rw [hf _ e2]; exact e3,e4,e5⟩
theorem CF.mono {h h':H} {n n' c no:Nat} {p:Bool × Nat} (f:CF h n c no p) (hf:∀ b,b < n→getO h' b=getO h b) (hn:n≤n'):CF h' n' c no p:=by
 obtain ⟨mc,ec,tc,j,B,mb,l,g1,g2,g3,g4,g5,g6,g7,g8,g9,g10,g11,g12,hcase⟩:=f.out
 refine ⟨mc,ec,tc,j,B,mb,l,by rw [hf _ g9]; exact g1,g2,g3,g4,g5,g6,g7,g8,by omega,by omega,by omega,by rw [hf _ g11]; exact g12,?_⟩
 rcases hcase with ⟨q0,q1,db,mj,ej,tj,q2,q3,q4,q5⟩ | ⟨q0,b,o,cc,e',m',x',q1,q2,q3,q4,q5⟩
 ·exact .inl ⟨q0,q1,db,mj,ej,tj,by rw [hf _ g10]; exact q2,q3,q4,q5.mono hf hn⟩
 ·exact .inr ⟨q0,b,o,cc,e',m',x',q1,by omega,by rw [hf _ q2]; exact q3,q4,q5⟩
theorem cRd_mono {h h':H} {n n' c no:Nat} {p:Bool × Nat} (e:cRd h n c no=some p) (hf:∀ b,b < n→getO h' b=getO h b) (hn:n≤n'):cRd h' n' c no=some p:=cRd_of ((cRd_inv e).mono hf hn)
section
variable {ex:Nat→Option I} {d:Nat} {h:H} {n:Nat} {k:K}
theorem cread_way {fb:I} (hw:ex 333=some (zga fb)) {c no:Nat} {p:Bool × Nat} (e:cRd h n c no=some p) (hG:okG h=true) (hn:10≤n) (hn2:n < 1000000000000000000):
  ∃ m,(m=n∨m=n + 1)∧∀ k:K,(lv (cxT ex) (d + 1)).call 333 [.ptr c 0,.int 3 no] h n k=k (.tup (.cons (.sl m 0 128 128 true) (.cons .nili .nl))) (setO h m (.bytes 128 p.2)) (m + 1):=by
 refine ⟨if p.1=true then n + 1 else n,by split<;>simp,fun k=>?_⟩
 rw [call_way hw]
 show zso (cRd h n c no) h n k (fb [.ptr c 0,.int 3 no] h n k)=_
 rw [e]
 show br (br (okG h) (okN n) false) (br p.1 (zfj p.2 (n + 1) h k) (zfj p.2 n h k)) .fail=_
 unfold okN
 rw [hG,y_brT,y_bleT hn,y_brT,y_bltT (by omega),y_brT,zay]
 split<;>rw [freshAt_eq]
theorem read112 (w:Ways ex) {fb:I} (hw:ex 333=some (zga fb)) {t c a id mt et kd:Nat} {tt:T AV} (ht:getO h t=some (.cells mt et tt)) (hm:3 < mt) (t0:zag tt 0=.ptr c 0) (t2:zag tt 2=.int 3 a)
  (htn:t < n) (ha:a < 1000000) (hid:1≤id) (hid2:id < 1000) (hk:zgb h n c (a + id - 1)=some kd) (hG:okG h=true) (hn:10≤n) (hn2:n < 999999999999999999):
  ∃ sz lv_ mo h2 n2,(∀ k:K,(lv (cxT ex) (d + 4)).call 252 [.ptr t 0,.int 3 id] h n k=k (.tup (.cons (.agg (.cons (.int 3 kd) (.cons (.int 3 sz) (.cons lv_ (.cons (.int 3 mo) .nl))))) (.cons .nili .nl))) h2 n2)∧
   okC lv_=true∧n≤n2∧n2≤n + 300∧∀ q,q < n→getO h2 q=getO h q:=by
 have hp:∃ p,cRd h n c (a + id - 1)=some p∧zza p.2=some kd:=by
  unfold zgb at hk
  cases hc:cRd h n c (a + id - 1) with
  | none=>rw [hc] at hk; cases hk
  | some p=>rw [hc] at hk; exact ⟨p,rfl,hk⟩
 obtain ⟨p,hp,hk⟩:=hp
 obtain ⟨b,x⟩:=p
 simp only at hk
 unfold zza at hk
 obtain ⟨k1,hk1⟩:=zbo hk
 obtain ⟨k2,hk2⟩:=zbo hk1
 rw [Nat.ble_eq] at k1 k2
 have k3:=Option.some.inj hk2
 have hfr:∀ q,q < n→getO (setO h n (.cells 4 0 (.node (.node (.node .nil (some (.int 3 0)) .nil) (some (.int 3 0)) .nil) (some (.int 3 0)) (.node .nil (some .nils) .nil)))) q=getO h q:=fun q hq=>y_neO (by omega) (by omega)
 obtain ⟨m,hm',hcr⟩:=cread_way (ex:=ex) (d:=d + 2) (n:=n + 1) hw (cRd_mono hp hfr (by omega)) (by rw [okG_mono (hfr 2 (by omega))]; exact hG) (by omega) (by omega)
 have hlt:=num2_lt 128 x 1
 have hb0:=zcs 128 x 0
 have hb0':zar 128 x 0 % Lo.M=zar 128 x 0:=Nat.mod_eq_of_lt (by unfold Lo.M; omega)
 have e1:a + id - 1 < 18446744073709551616:=by omega
 have hmn:n < m:=by omega
 have hmn2:m < n + 3:=by omega
 have hnum:=fun (h':H) (n':Nat) (k:K) (e:getO h' m=some (.bytes 128 x))=>number196 (ex:=ex) (d:=d + 2) (h:=h') (n:=n') (k:=k) w (b:=m) (f:=1) (l:=127) (c:=127) (e:=true) e (by omega) (by omega)
 have hlist:∃ (V:H→Nat→AV) (H2:H→Nat→H) (N2:H→Nat→Nat),∀ h' n',getO h' m=some (.bytes 128 x)→m < n'→n' < 9000000000000000000→
   (∀ k:K,(lv (cxT ex) (d + 3)).call 336 [.sl m 4 124 124 true,.int 3 ((num2 128 x 1 + 127) / 128)] h' n' k=k (V h' n') (H2 h' n') (N2 h' n'))∧okC (V h' n')=true∧n'≤N2 h' n'∧N2 h' n'≤n' + 200∧∀ q,q < n'→getO (H2 h' n') q=getO h' q:=by
  have:∀ p:H × Nat,∃ r:AV × H × Nat,getO p.1 m=some (.bytes 128 x)→m < p.2→p.2 < 9000000000000000000→
   (∀ k:K,(lv (cxT ex) (d + 3)).call 336 [.sl m 4 124 124 true,.int 3 ((num2 128 x 1 + 127) / 128)] p.1 p.2 k=k r.1 r.2.1 r.2.2)∧okC r.1=true∧p.2≤r.2.2∧r.2.2≤p.2 + 200∧∀ q,q < p.2→getO r.2.1 q=getO p.1 q:=fun p=>by
   by_cases hc:getO p.1 m=some (.bytes 128 x)∧m < p.2∧p.2 < 9000000000000000000
   ·obtain ⟨v,h2,n2,r⟩:=list198 (ex:=ex) (d:=d) (h:=p.1) (n:=p.2) w hc.1 (f:=4) (l:=124) (m:=(num2 128 x 1 + 127) / 128) (by omega) (by omega) (by omega) hc.2.1 (by omega) hc.2.2
    exact ⟨(v,h2,n2),fun _ _ _=>r⟩
   ·exact ⟨(.nils,.nil,0),fun a b c=>absurd ⟨a,b,c⟩ hc⟩
  obtain ⟨F,hF⟩:=Classical.skolem.1 this
  exact ⟨fun h n=>(F (h,n)).1,fun h n=>(F (h,n)).2.1,fun h n=>(F (h,n)).2.2,fun h' n' a b c=>hF (h',n') a b c⟩
 obtain ⟨V,H2,N2,hL⟩:=hlist
 have hL1:=fun h' n' k a b c=>(hL h' n' a b c).1 k
 have hL2:=fun h' n' a b c=>(hL h' n' a b c).2.1
 have hL3:=fun h' n' a b c=>(hL h' n' a b c).2.2.1
 have hL4:=fun h' n' a b c=>(hL h' n' a b c).2.2.2.1
 have hL5:=fun h' n' q a b c=>(hL h' n' a b c).2.2.2.2 q
 have hL6:=fun h' n' a b c=>zmo (hL2 h' n' a b c)
 have hA:getO (setO (setO (setO (setO h n (.cells 4 0 (.node (.node (.node .nil (some (.int 3 0)) .nil) (some (.int 3 0)) .nil) (some (.int 3 0)) (.node .nil (some .nils) .nil)))) m (.bytes 128 x)) (m + 1) (.cells 4 0 (.node (.node (.node .nil (some (.int 3 0)) .nil) (some (.int 3 0)) .nil) (some (.int 3 0)) (.node .nil (some .nils) .nil)))) (m + 1) (.cells 4 0 (T.put (some (.int 3 0)) (T.put (some .nils) (T.put (some (.int 3 (num2 128 x 1))) (T.put (some (.int 3 (zar 128 x 0))) (.node (.node (.node .nil (some (.int 3 0)) .nil) (some (.int 3 0)) .nil) (some (.int 3 0)) (.node .nil (some .nils) .nil)) 1) 2) 3) 4))) m=some (.bytes 128 x):=by simp (discharger:=omega)
 refine ⟨num2 128 x 1,(V (setO (setO (setO (setO h n (.cells 4 0 (.node (.node (.node .nil (some (.int 3 0)) .nil) (some (.int 3 0)) .nil) (some (.int 3 0)) (.node .nil (some .nils) .nil)))) m (.bytes 128 x)) (m + 1) (.cells 4 0 (.node (.node (.node .nil (some (.int 3 0)) .nil) (some (.int 3 0)) .nil) (some (.int 3 0)) (.node .nil (some .nils) .nil)))) (m + 1) (.cells 4 0 (T.put (some (.int 3 0)) (T.put (some .nils) (T.put (some (.int 3 (num2 128 x 1))) (T.put (some (.int 3 (zar 128 x 0))) (.node (.node (.node .nil (some (.int 3 0)) .nil) (some (.int 3 0)) .nil) (some (.int 3 0)) (.node .nil (some .nils) .nil)) 1) 2) 3) 4))) (m + 2)),0,(setO (setO (H2 (setO (setO (setO (setO h n (.cells 4 0 (.node (.node (.node .nil (some (.int 3 0)) .nil) (some (.int 3 0)) .nil) (some (.int 3 0)) (.node .nil (some .nils) .nil)))) m (.bytes 128 x)) (m + 1) (.cells 4 0 (.node (.node (.node .nil (some (.int 3 0)) .nil) (some (.int 3 0)) .nil) (some (.int 3 0)) (.node .nil (some .nils) .nil)))) (m + 1) (.cells 4 0 (T.put (some (.int 3 0)) (T.put (some .nils) (T.put (some (.int 3 (num2 128 x 1))) (T.put (some (.int 3 (zar 128 x 0))) (.node (.node (.node .nil (some (.int 3 0)) .nil) (some (.int 3 0)) .nil) (some (.int 3 0)) (.node .nil (some .nils) .nil)) 1) 2) 3) 4))) (m + 2)) (m + 1) (.cells 4 0 (T.put (some (V (setO (setO (setO (setO h n (.cells 4 0 (.node (.node (.node .nil (some (.int 3 0)) .nil) (some (.int 3 0)) .nil) (some (.int 3 0)) (.node .nil (some .nils) .nil)))) m (.bytes 128 x)) (m + 1) (.cells 4 0 (.node (.node (.node .nil (some (.int 3 0)) .nil) (some (.int 3 0)) .nil) (some (.int 3 0)) (.node .nil (some .nils) .nil)))) (m + 1) (.cells 4 0 (T.put (some (.int 3 0)) (T.put (some .nils) (T.put (some (.int 3 (num2 128 x 1))) (T.put (some (.int 3 (zar 128 x 0))) (.node (.node (.node .nil (some (.int 3 0)) .nil) (some (.int 3 0)) .nil) (some (.int 3 0)) (.node .nil (some .nils) .nil)) 1) 2) 3) 4))) (m + 2))) (T.put (some (.int 3 0)) (T.put (some .nils) (T.put (some (.int 3 (num2 128 x 1))) (T.put (some (.int 3 (zar 128 x 0))) (.node (.node (.node .nil (some (.int 3 0)) .nil) (some (.int 3 0)) .nil) (some (.int 3 0)) (.node .nil (some .nils) .nil)) 1) 2) 3) 4) 3))) n (.cells 4 0 (T.put (some (.int 3 0)) (T.put (some (V (setO (setO (setO (setO h n (.cells 4 0 (.node (.node (.node .nil (some (.int 3 0)) .nil) (some (.int 3 0)) .nil) (some (.int 3 0)) (.node .nil (some .nils) .nil)))) m (.bytes 128 x)) (m + 1) (.cells 4 0 (.node (.node (.node .nil (some (.int 3 0)) .nil) (some (.int 3 0)) .nil) (some (.int 3 0)) (.node .nil (some .nils) .nil)))) (m + 1) (.cells 4 0 (T.put (some (.int 3 0)) (T.put (some .nils) (T.put (some (.int 3 (num2 128 x 1))) (T.put (some (.int 3 (zar 128 x 0))) (.node (.node (.node .nil (some (.int 3 0)) .nil) (some (.int 3 0)) .nil) (some (.int 3 0)) (.node .nil (some .nils) .nil)) 1) 2) 3) 4))) (m + 2))) (T.put (some (.int 3 (num2 128 x 1))) (T.put (some (.int 3 (zar 128 x 0))) (.node (.node (.node .nil (some (.int 3 0)) .nil) (some (.int 3 0)) .nil) (some (.int 3 0)) (.node .nil (some .nils) .nil)) 1) 2) 3) 4))),N2 (setO (setO (setO (setO h n (.cells 4 0 (.node (.node (.node .nil (some (.int 3 0)) .nil) (some (.int 3 0)) .nil) (some (.int 3 0)) (.node .nil (some .nils) .nil)))) m (.bytes 128 x)) (m + 1) (.cells 4 0 (.node (.node (.node .nil (some (.int 3 0)) .nil) (some (.int 3 0)) .nil) (some (.int 3 0)) (.node .nil (some .nils) .nil)))) (m + 1) (.cells 4 0 (T.put (some (.int 3 0)) (T.put (some .nils) (T.put (some (.int 3 (num2 128 x 1))) (T.put (some (.int 3 (zar 128 x 0))) (.node (.node (.node .nil (some (.int 3 0)) .nil) (some (.int 3 0)) .nil) (some (.int 3 0)) (.node .nil (some .nils) .nil)) 1) 2) 3) 4))) (m + 2),fun k=>?_,hL2 _ _ hA (by omega) (by omega),?_,?_,fun q hq=>?_⟩
 ·rw [c252 (w.no 252 (by decide)),← k3]
  simp (discharger:=first | omega | (simp (discharger:=omega) only [y_same,y_neO]; all_goals fail)) [runF,hf252,lenL,ht,t0,t2,hcr,hb0',hnum,data197 w,hL1,hL2,hL5,hL6]
 ·have:=hL3 (setO (setO (setO (setO h n (.cells 4 0 (.node (.node (.node .nil (some (.int 3 0)) .nil) (some (.int 3 0)) .nil) (some (.int 3 0)) (.node .nil (some .nils) .nil)))) m (.bytes 128 x)) (m + 1) (.cells 4 0 (.node (.node (.node .nil (some (.int 3 0)) .nil) (some (.int 3 0)) .nil) (some (.int 3 0)) (.node .nil (some .nils) .nil)))) (m + 1) (.cells 4 0 (T.put (some (.int 3 0)) (T.put (some .nils) (T.put (some (.int 3 (num2 128 x 1))) (T.put (some (.int 3 (zar 128 x 0))) (.node (.node (.node .nil (some (.int 3 0)) .nil) (some (.int 3 0)) .nil) (some (.int 3 0)) (.node .nil (some .nils) .nil)) 1) 2) 3) 4))) (m + 2) hA (by omega) (by omega); omega
 ·have:=hL4 (setO (setO (setO (setO h n (.cells 4 0 (.node (.node (.node .nil (some (.int 3 0)) .nil) (some (.int 3 0)) .nil) (some (.int 3 0)) (.node .nil (some .nils) .nil)))) m (.bytes 128 x)) (m + 1) (.cells 4 0 (.node (.node (.node .nil (some (.int 3 0)) .nil) (some (.int 3 0)) .nil) (some (.int 3 0)) (.node .nil (some .nils) .nil)))) (m + 1) (.cells 4 0 (T.put (some (.int 3 0)) (T.put (some .nils) (T.put (some (.int 3 (num2 128 x 1))) (T.put (some (.int 3 (zar 128 x 0))) (.node (.node (.node .nil (some (.int 3 0)) .nil) (some (.int 3 0)) .nil) (some (.int 3 0)) (.node .nil (some .nils) .nil)) 1) 2) 3) 4))) (m + 2) hA (by omega) (by omega); omega
 ·rw [y_neO (by omega) (by omega),y_neO (by omega) (by omega),hL5 _ _ q hA (by omega) (by omega) (by omega)]
  simp (discharger:=omega)
end
end
end
end Go.Proofs
namespace Go.Proofs
noncomputable section
noncomputable section
open Go Go.VE
set_option maxRecDepth 100000
set_option maxHeartbeats 1000000
set_option linter.all false
theorem okH_inv {n:Nat} (h:okH n=true):10≤n∧n < 500000000000000000:=by
 unfold okH at h
 obtain ⟨h1,h2⟩:=brb h
 rw [Nat.ble_eq] at h1
 rw [Nat.blt_eq] at h2
 exact ⟨h1,h2⟩
theorem kindAt_mono {h h':H} {n n' c no kd:Nat} (e:zgb h n c no=some kd) (hf:∀ b,b < n→getO h' b=getO h b) (hn:n≤n'):zgb h' n' c no=some kd:=by
 unfold zgb at e ⊢
 cases hc:cRd h n c no with
 | none=>rw [hc] at e; cases e
 | some p=>rw [hc] at e; rw [cRd_mono hc hf hn]; exact e
theorem leftN_succ {h:H} {n c f no acc u:Nat} (e:zlz h n c (f + 1) no acc=some u):∃ kd,zgb h n c no=some kd∧zlz h n c f (no + 1) (if kd=0 then acc + 1 else acc)=some u:=by
 have e1:zlz h n c (f + 1) no acc=match zgb h n c no with
  | some kd=>frc (no + 1) fun no=>br (Nat.beq kd 0) (frc (acc + 1) fun acc=>zlz h n c f no acc) (zlz h n c f no acc)
  | none=>none:=rfl
 rw [e1] at e
 cases hk:zgb h n c no with
 | none=>rw [hk] at e; cases e
 | some kd=>
  rw [hk] at e
  simp only at e
  rw [zam,zay,zam] at e
  refine ⟨kd,rfl,?_⟩
  split at e
  ·rename_i hb; rw [if_pos (zak hb)]; exact e
  ·rename_i hb; rw [if_neg (fun h0=>hb (by rw [h0]; rfl))]; exact e
section
variable {ex:Nat→Option I} {d:Nat} {h:H} {n:Nat} {k:K}
theorem left51 (w:Ways ex) (he:ex 162=none) {fb:I} (hw:ex 333=some (zga fb)) {t c a m mt et u:Nat} {tt:T AV} (ht:getO h t=some (.cells mt et tt)) (hm:3 < mt) (t0:zag tt 0=.ptr c 0) (t2:zag tt 2=.int 3 a) (t3:zag tt 3=.int 3 m)
  (htn:t < n) (ha:a < 1000000) (hmm:m < 1000) (hk:zlz h n c m a 0=some u) (hG:okG h=true) (hn:10≤n) (hn2:n < 999999999999000000):
  ∃ h2 n2,(∀ k:K,(lv (cxT ex) (d + 5)).call 162 [.ptr t 0] h n k=k (.tup (.cons (.int 3 u) (.cons .nili .nl))) h2 n2)∧∀ q,q < n→getO h2 q=getO h q:=by
 have key:=zgp (b:=@lb162_0 Lo.slow (lv (cxT ex) (d + 4))) (id:=0) (N:=m)
  (fun i e h' n'=>∃ acc,eAt 1 e=.ptr t 0∧eAt 6 e=.int 3 (i + 1)∧eAt 5 e=.int 3 acc∧acc≤i∧n≤n'∧n'≤n + 400 * i∧(∀ q,q < n→getO h' q=getO h q)∧zlz h n c (m - i) (a + i) acc=some u)
  (fun e h' n'=>eAt 5 e=.int 3 u∧∀ q,q < n→getO h' q=getO h q)
  (fun i e h' n' hi hI=>by
   obtain ⟨acc,g1,g6,g5,ga,gn,gn2,gf,gl⟩:=hI
   rw [show m - i=(m - (i + 1)) + 1 by omega] at gl
   obtain ⟨kd,hkd,gl⟩:=leftN_succ gl
   have hkd':zgb h' n' c (a + (i + 1) - 1)=some kd:=by
    rw [show a + (i + 1) - 1=a + i by omega]
    exact kindAt_mono hkd gf gn
   have ht':getO h' t=some (.cells mt et tt):=by rw [gf t htn]; exact ht
   obtain ⟨sz,lvv,mo,h2,n2,r1,r2,r3,r4,r5⟩:=read112 (d:=d) (h:=h') (n:=n') w hw (id:=i + 1) ht' hm t0 t2 (by omega) ha (by omega) (by omega) hkd' (by rw [okG_mono (gf 2 (by omega))]; exact hG) (by omega) (by omega)
   have r6:=zmo r2
   have ht2:getO h2 t=some (.cells mt et tt):=by rw [r5 t (by omega)]; exact ht'
   by_cases h0:kd=0
   ·subst h0
    rw [if_pos rfl] at gl
    refine ⟨ePut (.int 3 (i + 1 + 1)) 6 (ePut (.int 3 (acc + 1)) 5 (ePut (.bool true) 29 (ePut (.bool false) 24 (ePut .nili 8 (ePut (.ptr n2 0) 7 (ePut (.bool true) 14 e)))))),
     setO (setO h2 n2 (.cells 4 0 (.node (.node (.node .nil (some (.int 3 0)) .nil) (some (.int 3 0)) .nil) (some (.int 3 0)) (.node .nil (some .nils) .nil)))) n2 (.cells 4 0 (T.put (some (.int 3 mo)) (T.put (some lvv) (T.put (some (.int 3 sz)) (T.put (some (.int 3 0)) (.node (.node (.node .nil (some (.int 3 0)) .nil) (some (.int 3 0)) .nil) (some (.int 3 0)) (.node .nil (some .nils) .nil)) 1) 2) 3) 4)),n2 + 1,?_,?_⟩
    ·simp (discharger:=omega) [lb162_0,g1,g6,g5,ht',t3,r1,r2,r6]
    ·refine ⟨acc + 1,by simp [g1],by simp,by simp,by omega,by omega,by omega,fun q hq=>?_,by rw [show a + (i + 1)=a + i + 1 by omega]; exact gl⟩
     rw [y_neO (by omega) (by omega),y_neO (by omega) (by omega),r5 q (by omega),gf q hq]
   ·rw [if_neg h0] at gl
    have h0':Nat.beq kd 0=false:=y_beqF h0
    refine ⟨ePut (.int 3 (i + 1 + 1)) 6 (ePut (.bool false) 29 (ePut (.bool false) 24 (ePut .nili 8 (ePut (.ptr n2 0) 7 (ePut (.bool true) 14 e))))),
     setO (setO h2 n2 (.cells 4 0 (.node (.node (.node .nil (some (.int 3 0)) .nil) (some (.int 3 0)) .nil) (some (.int 3 0)) (.node .nil (some .nils) .nil)))) n2 (.cells 4 0 (T.put (some (.int 3 mo)) (T.put (some lvv) (T.put (some (.int 3 sz)) (T.put (some (.int 3 kd)) (.node (.node (.node .nil (some (.int 3 0)) .nil) (some (.int 3 0)) .nil) (some (.int 3 0)) (.node .nil (some .nils) .nil)) 1) 2) 3) 4)),n2 + 1,?_,?_⟩
    ·simp (discharger:=omega) [lb162_0,g1,g6,g5,ht',t3,r1,r2,r6,h0']
    ·refine ⟨acc,by simp [g1],by simp,by simp [g5],by omega,by omega,by omega,fun q hq=>?_,by rw [show a + (i + 1)=a + i + 1 by omega]; exact gl⟩
     rw [y_neO (by omega) (by omega),y_neO (by omega) (by omega),r5 q (by omega),gf q hq])
  (fun e h' n' hI=>by
   obtain ⟨acc,g1,g6,g5,ga,gn,gn2,gf,gl⟩:=hI
   have ht':getO h' t=some (.cells mt et tt):=by rw [gf t htn]; exact ht
   rw [show m - m=0 by omega] at gl
   have e1:acc=u:=Option.some.inj gl
   refine ⟨ePut (.bool false) 14 e,?_,by simp [g5,e1],gf⟩
   simp (discharger:=omega) [lb162_0,g1,g6,g5,ht',t3])
 obtain ⟨e',h',n',k1,k2,k3⟩:=key 1000000 0 (ePut (.int 3 1) 6 (ePut (.int 3 0) 5 (ePut .nili 4 (ePut (.int 3 0) 3 (ePut (.ptr t 0) 1 Ev.nil))))) h n (by omega) (by omega) ⟨0,by simp,by simp,by simp,by omega,by omega,by omega,fun _ _=>rfl,hk⟩
 refine ⟨h',n',fun k=>?_,k3⟩
 rw [c162 he,kf162_eq]
 simp (discharger:=omega) [runF,kf162,lenL,k1,k2]
end
theorem iLeft_law {ex:Nat→Option I} (hex:ExOk ex) (w:Ways ex) {fb:I} (hw:ex 333=some (zga fb)) (he:ex 162=none) (args:List AV) (h:H) (n:Nat) (k:K) (rr:RR) (hr:zyv ((lv (cxT ex) 500).call 162) args h n k=rr) (hne:rr≠.fail):CallLaw Tryz.prog 162 args h n k rr:=by
 have fb:(lv (cxT ex) 500).call 162 args h n k=rr→CallLaw Tryz.prog 162 args h n k rr:=fun e=>run_ok hex 500 162 args h n k rr e hne
 unfold zyv at hr
 split at hr
 ·rename_i t o
  rcases zdf hr with ⟨h1,hr1⟩ | hr1
  ·have:=zak h1; subst this
   split at hr1
   ·rename_i c o2 kd a kd2 m e0 e2 e3
    rcases zdf hr1 with ⟨q1,hr2⟩ | hr2
    ·rcases zdf hr2 with ⟨q2,hr3⟩ | hr3
     ·rcases zdf hr3 with ⟨q3,hr4⟩ | hr4
      ·rcases zdf hr4 with ⟨q4,hr5⟩ | hr5
       ·rcases zdf hr5 with ⟨q5,hr6⟩ | hr6
        ·rcases zdf hr6 with ⟨q6,hr7⟩ | hr7
         ·cases hl:zlz h n c m a 0 with
          | none=>rw [hl] at hr7; exact fb hr7
          | some u=>
           rw [hl] at hr7
           have:=zak q1; subst this
           have:=zak q2; subst this
           have:=zak q3; subst this
           rw [Nat.blt_eq] at q4 q5
           obtain ⟨z1,z2⟩:=brb q6
           rw [Nat.blt_eq] at z1
           obtain ⟨zG,z2⟩:=brb z2
           obtain ⟨z3,z4⟩:=okH_inv z2
           obtain ⟨mt,et,tt,f1,f2,f3⟩:=zct e0 (by simp)
           obtain ⟨mt',et',tt',f4,f5,f6⟩:=zct e2 (by simp)
           rw [f1] at f4; cases f4
           obtain ⟨mt',et',tt',f4,f7,f8⟩:=zct e3 (by simp)
           rw [f1] at f4; cases f4
           obtain ⟨h2,n2,r1,r2⟩:=left51 (d:=495) w he hw f1 f7 f3 f6 f8 z1 q5 q4 hl zG z3 (by omega)
           have hr8:frc u (fun u=>k (.tup (.cons (.int 3 u) (.cons .nili .nl))) h n)=rr:=hr7
           rw [zam] at hr8
           exact (run_ok hex 500 162 _ h n finK _ (r1 finK) (by simp [finK])).roN r2 rfl hr8
         ·exact fb hr7
        ·exact fb hr6
       ·exact fb hr5
      ·exact fb hr4
     ·exact fb hr3
    ·exact fb hr2
   ·exact fb hr1
  ·exact fb hr1
 ·exact fb hr
end
end
end Go.Proofs
namespace Go.Proofs
noncomputable section
noncomputable section
open Go Go.VE
set_option maxRecDepth 100000
set_option maxHeartbeats 1000000
set_option linter.all false
theorem fnv_succ {m x f i acc:Nat}:fnv m x (f + 1) i acc=fnv m x f (i + 1) (Nat.xor acc (zar m x i) * 1099511628211 % 18446744073709551616):=by
 show frc (Nat.xor acc (zar m x i) * 1099511628211 % 18446744073709551616) (fun acc=>frc (i + 1) fun i=>fnv m x f i acc)=_
 rw [zam,zam]
theorem fnvL_succ {h:H} {t:T AV} {f i acc u:Nat} (e:fnvL h t (f + 1) i acc=some u):∃ acc',fnvO h (zag t i) acc=some acc'∧fnvL h t f (i + 1) acc'=some u:=by
 have e1:fnvL h t (f + 1) i acc=match fnvO h (zag t i) acc with
  | some acc=>frc acc fun acc=>frc (i + 1) fun i=>fnvL h t f i acc
  | none=>none:=rfl
 rw [e1] at e
 cases hk:fnvO h (zag t i) acc with
 | none=>rw [hk] at e; cases e
 | some acc'=>
  rw [hk] at e
  simp only at e
  rw [zam,zam] at e
  exact ⟨acc',rfl,e⟩
theorem fnvO_inv {h:H} {v:AV} {acc u:Nat} (e:fnvO h v acc=some u):(v=.nils∧u=acc)∨∃ b f l c ex,v=.sl b f l c ex∧((l=0∧u=acc)∨∃ m x,getO h b=some (.bytes m x)∧f + l≤m∧l < 100000∧u=fnv m x l f acc):=by
 unfold fnvO at e
 split at e
 ·exact .inl ⟨rfl,(Option.some.inj e).symm⟩
 ·rename_i b f l c ex
  refine .inr ⟨b,f,l,c,ex,rfl,?_⟩
  rw [zay] at e
  split at e
  ·rename_i hb; exact .inl ⟨zak hb,(Option.some.inj e).symm⟩
  ·right
   split at e
   ·rename_i m x hg
    obtain ⟨h1,e1⟩:=zbo e
    obtain ⟨h2,e2⟩:=zbo e1
    rw [Nat.ble_eq] at h1
    rw [Nat.blt_eq] at h2
    exact ⟨m,x,hg,h1,h2,(Option.some.inj e2).symm⟩
   ·cases e
 ·cases e
section
variable {ex:Nat→Option I} {d:Nat} {h:H} {n:Nat} {k:K}
theorem loop269_0 {L:Lv} {e:Env} {v:AV} {l acc u:Nat} (g15:eAt 15 e=v) (g16:eAt 16 e=.int 3 l) (g17:eAt 17 e=.int 3 0) (g4:eAt 4 e=.int 7 acc)
  (hv:(l=0∧u=acc)∨∃ b f c ex m x,v=.sl b f l c ex∧getO h b=some (.bytes m x)∧f + l≤m∧l < 100000∧u=fnv m x l f acc):
  ∃ e' h' n',zkh (@lb300_0 Lo.slow L) 1000000 e h n=.ext 2 e' h' n'∧(h'=h∧n'=n∧eAt 4 e'=.int 7 u∧eAt 9 e'=eAt 9 e∧eAt 10 e'=eAt 10 e∧eAt 11 e'=eAt 11 e):=by
 refine zgp (id:=2) (N:=l) (b:=@lb300_0 Lo.slow L) (fun i e' h' n'=>h'=h∧n'=n∧eAt 15 e'=v∧eAt 16 e'=.int 3 l∧eAt 17 e'=.int 3 i∧(eAt 9 e'=eAt 9 e∧eAt 10 e'=eAt 10 e∧eAt 11 e'=eAt 11 e)∧
   ∃ acc',eAt 4 e'=.int 7 acc'∧((l=0∧u=acc')∨∃ b f c ex m x,v=.sl b f l c ex∧getO h b=some (.bytes m x)∧f + l≤m∧l < 100000∧u=fnv m x (l - i) (f + i) acc'))
  _ (fun i e' h' n' hi hI=>?_) (fun e' h' n' hI=>?_) 1000000 0 e h n (by omega) (by rcases hv with ⟨h1,_⟩ | ⟨_,_,_,_,_,_,_,_,_,h1,_⟩<;>omega) ⟨rfl,rfl,g15,g16,g17,⟨rfl,rfl,rfl⟩,acc,g4,hv⟩
 ·obtain ⟨rfl,rfl,k15,k16,k17,⟨q9,q10,q11⟩,acc',k4,kv⟩:=hI
  rcases kv with ⟨h1,_⟩ | ⟨b,f,c,ex,m,x,hv',hb,hm,hl,hu⟩
  ·omega
  ·rw [show l - i=(l - (i + 1)) + 1 by omega,fnv_succ] at hu
   have hb8:=zcs m x (f + i)
   have e1:zar m x (f + i) % Lo.M=zar m x (f + i):=Nat.mod_eq_of_lt (by unfold Lo.M; omega)
   refine ⟨ePut (.int 3 (i + 1)) 17 (ePut (.int 7 (Nat.xor acc' (zar m x (f + i)) * 1099511628211 % 18446744073709551616)) 4 (ePut (.int 4 (zar m x (f + i))) 8 (ePut (.bool true) 18 e'))),h',n',?_,rfl,rfl,by simp [k15],by simp [k16],by simp,⟨by simp [q9],by simp [q10],by simp [q11]⟩,_,by simp; rfl,.inr ⟨b,f,c,ex,m,x,hv',hb,hm,hl,by rw [hu]; congr 1⟩⟩
   simp (discharger:=omega) [lb300_0,k15,k16,k17,k4,hv',hb,e1]
   done
 ·obtain ⟨rfl,rfl,k15,k16,k17,⟨q9,q10,q11⟩,acc',k4,kv⟩:=hI
  have hl2:l < 100000:=by rcases hv with ⟨h1,_⟩ | ⟨_,_,_,_,_,_,_,_,_,h1,_⟩<;>omega
  refine ⟨ePut (.bool false) 18 e',?_,rfl,rfl,?_,by simp [q9],by simp [q10],by simp [q11]⟩
  ·simp (discharger:=omega) [lb300_0,k15,k16,k17,k4]
  ·simp [k4]
   rcases kv with ⟨_,h1⟩ | ⟨b,f,c,ex,m,x,_,_,_,_,hu⟩
   ·exact h1.symm
   ·rw [Nat.sub_self] at hu; exact hu.symm
theorem parts269 (he:ex 300=none) {b f l c m es u:Nat} {xx:Bool} {t:T AV} (hb:getO h b=some (.cells m es t)) (hm:f + l≤m) (hl:l < 100000) (hu:fnvL h t l f 14695981039346656037=some u):
  (lv (cxT ex) (d + 1)).call 300 [.sl b f l c xx] h n k=k (.int 7 u) h n:=by
 have key:=zgp (id:=0) (N:=l) (b:=@lb300_1 Lo.slow (lv (cxT ex) d)) (fun i e' h' n'=>h'=h∧n'=n∧eAt 9 e'=.sl b f l c xx∧eAt 10 e'=.int 3 l∧eAt 11 e'=.int 3 i∧∃ acc,eAt 4 e'=.int 7 acc∧fnvL h t (l - i) (f + i) acc=some u)
  (fun e' h' n'=>h'=h∧n'=n∧eAt 4 e'=.int 7 u)
  (fun i e' h' n' hi hI=>by
   obtain ⟨rfl,rfl,k9,k10,k11,acc,k4,kl⟩:=hI
   rw [show l - i=(l - (i + 1)) + 1 by omega] at kl
   obtain ⟨acc',a1,a2⟩:=fnvL_succ kl
   rcases fnvO_inv a1 with ⟨v1,v2⟩ | ⟨b',f',l',c',ex',v1,v2⟩
   ·obtain ⟨e2,h2,n2,r1,rfl,rfl,r4,r9,r10,r11⟩:=loop269_0 (L:=lv (cxT ex) d) (h:=h') (n:=n') (e:=ePut (.int 3 0) 17 (ePut (.int 3 0) 16 (ePut .nils 15 (ePut .nils 6 (ePut (.bool true) 12 e'))))) (v:=.nils) (l:=0) (acc:=acc) (u:=acc') (by simp) (by simp) (by simp) (by simp [k4]) (.inl ⟨rfl,v2⟩)
    refine ⟨ePut (.int 3 (i + 1)) 11 e2,h2,n2,?_,rfl,rfl,by simp [r9,k9],by simp [r10,k10],by simp,acc',by simp [r4],by rw [show f + (i + 1)=f + i + 1 by omega]; exact a2⟩
    simp (discharger:=omega) [lb300_1,k9,k10,k11,hb,v1,r1,r11]
   ·obtain ⟨e2,h2,n2,r1,rfl,rfl,r4,r9,r10,r11⟩:=loop269_0 (L:=lv (cxT ex) d) (h:=h') (n:=n') (e:=ePut (.int 3 0) 17 (ePut (.int 3 l') 16 (ePut (.sl b' f' l' c' ex') 15 (ePut (.sl b' f' l' c' ex') 6 (ePut (.bool true) 12 e'))))) (v:=.sl b' f' l' c' ex') (l:=l') (acc:=acc) (u:=acc') (by simp) (by simp) (by simp) (by simp [k4])
     (v2.imp id fun ⟨m',x',g1,g2,g3,g4⟩=>⟨b',f',c',ex',m',x',rfl,g1,g2,g3,g4⟩)
    have hl':l' < 100000:=by rcases v2 with ⟨h1,_⟩ | ⟨_,_,_,_,h1,_⟩<;>omega
    refine ⟨ePut (.int 3 (i + 1)) 11 e2,h2,n2,?_,rfl,rfl,by simp [r9,k9],by simp [r10,k10],by simp,acc',by simp [r4],by rw [show f + (i + 1)=f + i + 1 by omega]; exact a2⟩
    simp (discharger:=omega) [lb300_1,k9,k10,k11,hb,v1,r1,r11])
  (fun e' h' n' hI=>by
   obtain ⟨rfl,rfl,k9,k10,k11,acc,k4,kl⟩:=hI
   rw [Nat.sub_self] at kl
   have:acc=u:=Option.some.inj kl
   refine ⟨ePut (.bool false) 12 e',?_,rfl,rfl,by simp [k4,this]⟩
   simp (discharger:=omega) [lb300_1,k9,k10,k11])
 obtain ⟨e2,h2,n2,r1,rfl,rfl,r4⟩:=key 1000000 0 (ePut (.int 3 0) 11 (ePut (.int 3 l) 10 (ePut (.sl b f l c xx) 9 (ePut (.int 7 14695981039346656037) 4 (ePut (.int 7 0) 3 (ePut (.sl b f l c xx) 1 Ev.nil)))))) h n (by omega) (by omega) ⟨rfl,rfl,by simp,by simp,by simp,14695981039346656037,by simp,hu⟩
 rw [c300 he,kf300_eq]
 simp (discharger:=omega) [runF,kf300,lenL,r1,r4]
end
theorem iParts_law {ex:Nat→Option I} (hex:ExOk ex) (he:ex 300=none) (args:List AV) (h:H) (n:Nat) (k:K) (rr:RR) (hr:zsz ((lv (cxT ex) 500).call 300) args h n k=rr) (hne:rr≠.fail):CallLaw Tryz.prog 300 args h n k rr:=by
 have fb:(lv (cxT ex) 500).call 300 args h n k=rr→CallLaw Tryz.prog 300 args h n k rr:=fun e=>run_ok hex 500 300 args h n k rr e hne
 unfold zsz at hr
 split at hr
 ·rename_i b f l c xx
  cases hp:ztw h f l (getO h b) with
  | none=>rw [hp] at hr; exact fb hr
  | some u=>
   rw [hp] at hr
   have hr2:frc u (fun u=>k (.int 7 u) h n)=rr:=hr
   rw [zam] at hr2
   unfold ztw at hp
   split at hp
   ·rename_i m es t hg
    obtain ⟨q1,hp1⟩:=zbo hp
    obtain ⟨q2,hp2⟩:=zbo hp1
    rw [Nat.ble_eq] at q1
    rw [Nat.blt_eq] at q2
    have:=parts269 (d:=499) (n:=n) (k:=finK) (c:=c) (xx:=xx) he hg q1 q2 hp2
    exact (run_ok hex 500 300 _ h n finK _ this (by simp [finK])).roN (fun _ _=>rfl) rfl hr2
   ·cases hp
 ·exact fb hr
end
end
end Go.Proofs
namespace Go.Proofs
noncomputable section
noncomputable section
open Go Go.VE
set_option maxRecDepth 100000
set_option maxHeartbeats 1000000
set_option linter.all false
section
variable {ex:Nat→Option I} {d:Nat} {h:H} {n:Nat} {k:K}
theorem is194 (w:Ways ex) {b x i c:Nat} {xx:Bool} (hb:getO h b=some (.bytes 128 x)) (hi:i < 1024):(lv (cxT ex) (d + 1)).call 384 [.sl b 0 128 c xx,.int 3 i] h n k=k (.bool (Nat.beq (bitN x i) 1)) h n:=by
 rw [c384 (w.no 384 (by decide))]
 have h1:=zcs 128 x (i / 8)
 have h2:zar 128 x (i / 8) / 2 ^ (i % 8) < 256:=Nat.lt_of_le_of_lt (Nat.div_le_self _ _) h1
 have e1:Nat.land (zar 128 x (i / 8) / 2 ^ (i % 8)) 1=bitN x i:=by
  show (zar 128 x (i / 8) / 2 ^ (i % 8)) &&& 1=_
  rw [Nat.and_one_is_mod]; rfl
 have e2:Nat.min (i % 8) 8=i % 8:=Nat.min_eq_left (by omega)
 simp (discharger:=omega) [runF,hf384,lenL,hb,e1,e2]
 rfl
theorem bytes192 (w:Ways ex) (he:ex 382=none) {fb:I} (hw:ex 333=some (zga fb)) {t c a m mt et:Nat} {tt:T AV} {p:Bool × Nat} (ht:getO h t=some (.cells mt et tt)) (hm:3 < mt) (t0:zag tt 0=.ptr c 0) (t1:zag tt 1=.int 3 a) (t3:zag tt 3=.int 3 m)
  (htn:t < n) (h1:1≤m) (h2:m≤1024) (hp:cRd h n c a=some p) (hG:okG h=true) (hn:10≤n) (hn2:n < 999999999999999999):
  ∃ b' h',(∀ k:K,(lv (cxT ex) (d + 2)).call 382 [.ptr t 0] h n k=k (.tup (.cons (.sl b' 0 128 128 false) (.cons .nili .nl))) h' (b' + 1))∧n≤b'∧b'≤n + 3∧getO h' b'=some (.bytes 128 (cutB 128 p.2 0 128))∧∀ q,q < n→getO h' q=getO h q:=by
 have ha:a < 640:=by
  obtain ⟨_,_,_,_,_,_,_,_,_,_,_,_,_,_,g,_⟩:=(cRd_inv hp).out
  exact g
 obtain ⟨mm,hm',hcr⟩:=cread_way (ex:=ex) (d:=d) (n:=n) hw hp hG (by omega) (by omega)
 have hap:=fun (h':H) (n':Nat) (k:K) (e:getO h' mm=some (.bytes 128 p.2)) (hn':n' < 9223372036854775808)=>zxj (h:=h') (n:=n') (k:=k) (c:=128) (ex:=true) (f:=0) e (by omega) hn'
 have key:=zgp (b:=@lb382_0 Lo.slow (lv (cxT ex) (d + 1))) (id:=0) (N:=1)
  (fun i e h' n'=>eAt 1 e=.ptr t 0∧eAt 6 e=.int 3 i∧(i=0→h'=h∧n'=n∧eAt 5 e=.nils)∧(i=1→∃ b',eAt 5 e=.sl b' 0 128 128 false∧n'=b' + 1∧n≤b'∧b'≤n + 3∧getO h' b'=some (.bytes 128 (cutB 128 p.2 0 128))∧∀ q,q < n→getO h' q=getO h q))
  (fun e h' n'=>∃ b',eAt 5 e=.sl b' 0 128 128 false∧n'=b' + 1∧n≤b'∧b'≤n + 3∧getO h' b'=some (.bytes 128 (cutB 128 p.2 0 128))∧∀ q,q < n→getO h' q=getO h q)
  (fun i e h' n' hi hI=>by
   obtain ⟨g1,g6,g0,_⟩:=hI
   have hi0:i=0:=by omega
   subst hi0
   obtain ⟨rfl,rfl,g5⟩:=g0 rfl
   refine ⟨ePut (.int 3 1) 6 (ePut (.sl (mm + 1) 0 128 128 false) 5 (ePut (.bool false) 33 (ePut .nili 8 (ePut (.sl mm 0 128 128 true) 7 (ePut (.bool true) 15 e))))),setO (setO h' mm (.bytes 128 p.2)) (mm + 1) (.bytes 128 (cutB 128 p.2 0 128)),mm + 1 + 1,?_,by simp [g1],by simp,fun h=>(by omega),fun _=>⟨mm + 1,by simp,rfl,by omega,by omega,by simp (discharger:=omega),fun q hq=>by simp (discharger:=omega)⟩⟩
   simp (discharger:=first | omega | (simp (discharger:=omega) only [y_same,y_neO]; all_goals fail)) [lb382_0,g1,g6,g5,ht,t0,t1,t3,hcr,hap])
  (fun e h' n' hI=>by
   obtain ⟨g1,g6,_,g2⟩:=hI
   obtain ⟨b',g5,rfl,k1,k2,k3,k4⟩:=g2 rfl
   refine ⟨ePut (.bool false) 15 e,?_,b',by simp [g5],rfl,k1,k2,k3,k4⟩
   have ht':getO h' t=some (.cells mt et tt):=by rw [k4 t htn]; exact ht
   simp (discharger:=omega) [lb382_0,g1,g6,g5,ht',t3])
 obtain ⟨e',h',n',r1,b',g5,rfl,k1,k2,k3,k4⟩:=key 1000000 0 (ePut (.int 3 0) 6 (ePut .nils 5 (ePut .nili 4 (ePut .nils 3 (ePut (.ptr t 0) 1 Ev.nil))))) h n (by omega) (by omega) ⟨by simp,by simp,fun _=>⟨rfl,rfl,by simp⟩,fun h=>(by omega)⟩
 refine ⟨b',h',fun k=>?_,k1,k2,k3,k4⟩
 rw [c382 he,kf382_eq]
 simp (discharger:=omega) [runF,kf382,lenL,r1,g5]
end
end
end
end Go.Proofs
namespace Go.Proofs
noncomputable section
noncomputable section
open Go Go.VE
set_option maxRecDepth 100000
set_option maxHeartbeats 1000000
set_option linter.all false
theorem c110 {ex:Nat→Option I} (he:ex 110=none) {d:Nat} {args:List AV} {h:H} {n:Nat} {k:K}:(lv (cxT ex) (d + 1)).call 110 args h n k=runF (lv (cxT ex) d) (@hf110 Lo.slow) args h n k:=by
 rw [← Lo.fast_eq]; exact call_code he (by kernel_rfl) (by kernel_rfl)

theorem takenN_succ {x f i acc:Nat}:zdo x (f + 1) i acc=zdo x f (i + 1) (if bitN x i=1 then acc + 1 else acc):=by
 show frc (i + 1) (fun j=>br (Nat.beq (bitN x i) 1) (frc (acc + 1) fun acc=>zdo x f j acc) (zdo x f j acc))=_
 rw [zam,zay,zam]
 by_cases h:bitN x i=1
 ·rw [if_pos h,if_pos (by rw [h]; rfl)]
 ·rw [if_neg h,if_neg (fun e=>h (zak e))]
section
variable {ex:Nat→Option I} {d:Nat} {h:H} {n:Nat} {k:K}
theorem clip144N (he:ex 110=none):(lv (cxT ex) (d + 1)).call 110 [.nils] h n k=k .nils h n:=by
 rw [c110 he]
 simp (discharger:=omega) [runF,hf110,lenL]
theorem clip144I (he:ex 110=none) {b l:Nat} {t:T AV} (hb:getO h b=some (.cells l 1 t)) (h0:0 < l) (hl:l < 1000000):(lv (cxT ex) (d + 1)).call 110 [.sl b 0 l l false] h n k=k (.sl b 0 l l true) h n:=by
 rw [c110 he]
 simp (discharger:=omega) [runF,hf110,lenL,z0s hb h0 hl]
theorem all111 (w:Ways ex) (he1:ex 382=none) (he2:ex 110=none) (he3:ex 311=none) {fb:I} (hw:ex 333=some (zga fb)) {t c a fr m mt et:Nat} {tt:T AV} {p:Bool × Nat} (ht:getO h t=some (.cells mt et tt)) (hm:3 < mt) (t0:zag tt 0=.ptr c 0) (t1:zag tt 1=.int 3 a) (t2:zag tt 2=.int 3 fr) (t3:zag tt 3=.int 3 m)
  (htn:t < n) (hfr:fr < 1000000) (h1:1≤m) (h2:m≤1024) (hp:cRd h n c a=some p) (hG:okG h=true) (hn:10≤n) (hn2:n < 999999999999990000):
  ∃ v h' n',(∀ k:K,(lv (cxT ex) (d + 3)).call 311 [.ptr t 0] h n k=k (.tup (.cons v (.cons .nili .nl))) h' n')∧(∀ q,q < n→getO h' q=getO h q)∧zdo (cutB 128 p.2 0 128) m 0 0≤m∧
   ((zdo (cutB 128 p.2 0 128) m 0 0=0∧v=.nils)∨∃ b,v=.sl b 0 (zdo (cutB 128 p.2 0 128) m 0 0) (zdo (cutB 128 p.2 0 128) m 0 0) true):=by
 obtain ⟨mb,hA,r1,r2,r3,r4,r5⟩:=bytes192 (d:=d) w he1 hw ht hm t0 t1 t3 htn h1 h2 hp hG hn (by omega)
 generalize cutB 128 p.2 0 128=x at *
 have key:=zgp (b:=@lb311_0 Lo.slow (lv (cxT ex) (d + 2))) (id:=0) (N:=m)
  (fun i e h' n'=>eAt 1 e=.ptr t 0∧eAt 5 e=.sl mb 0 128 128 false∧eAt 21 e=.int 3 m∧eAt 22 e=.int 3 i∧mb + 1≤n'∧n'≤mb + 1 + 2 * i∧(∀ q,q < mb + 1→getO h' q=getO hA q)∧
   ∃ acc,acc≤i∧zdo x (m - i) i acc=zdo x m 0 0∧((acc=0∧eAt 7 e=.nils)∨∃ b' t,eAt 7 e=.sl b' 0 acc acc false∧0 < acc∧mb + 1≤b'∧b' < n'∧getO h' b'=some (.cells acc 1 t)))
  (fun e h' n'=>∃ acc,acc≤m∧acc=zdo x m 0 0∧((acc=0∧eAt 7 e=.nils)∨∃ b' t,eAt 7 e=.sl b' 0 acc acc false∧0 < acc∧getO h' b'=some (.cells acc 1 t))∧∀ q,q < n→getO h' q=getO h q)
  (fun i e h' n' hi hI=>by
   obtain ⟨g1,g5,g21,g22,gn,gn2,gf,acc,ga,gt,g7⟩:=hI
   have hmb:getO h' mb=some (.bytes 128 x):=by rw [gf mb (by omega)]; exact r4
   have ht':getO h' t=some (.cells mt et tt):=by rw [gf t (by omega),r5 t htn]; exact ht
   rw [show m - i=(m - (i + 1)) + 1 by omega,takenN_succ] at gt
   have his:=fun (k:K)=>is194 (ex:=ex) (d:=d + 1) (h:=h') (n:=n') (k:=k) w (c:=128) (xx:=false) hmb (i:=i) (by omega)
   by_cases hb:bitN x i=1
   ·rw [if_pos hb] at gt
    have hb':Nat.beq (bitN x i) 1=true:=y_beqT hb
    obtain ⟨h2,t2',a1,a2,a3⟩:=zr1 (h:=setO h' n' (.cells 1 1 (oneT (.int 3 (fr + i))))) (n:=n' + 1) (o:=eAt 7 e) (i:=acc) (tb:=n')
     (by
      rcases g7 with ⟨e1,e2⟩ | ⟨b',t,e1,e2,e3,e4,e5⟩
      ·exact .inl ⟨e1,e2⟩
      ·exact .inr ⟨b',t,e1,e2,by omega,by omega,by omega,by rw [y_neO (by omega) (by omega)]; exact e5⟩) (y_same (by omega)) (by omega) (by omega)
    refine ⟨ePut (.int 3 (i + 1)) 22 (ePut (.sl (n' + 1) 0 (acc + 1) (acc + 1) false) 7 (ePut (.bool true) 27 (ePut (.int 3 i) 8 (ePut (.bool true) 23 e)))),h2,n' + 1 + 1,?_,by simp [g1],by simp [g5],by simp [g21],by simp,by omega,by omega,fun q hq=>?_,acc + 1,by omega,gt,.inr ⟨n' + 1,t2',by simp,by omega,by omega,by omega,a2⟩⟩
    ·simp (discharger:=omega) [lb311_0,g1,g5,g21,g22,his,hb',ht',t2,a1]
    ·rw [a3 q (by omega) (fun b' hb'=>?_),y_neO (by omega) (by omega),gf q hq]
     rcases g7 with ⟨_,e2⟩ | ⟨b'',t,e1,_,e3,_,_⟩
     ·rw [e2] at hb'; cases hb'
     ·rw [e1] at hb'; cases hb'; omega
   ·rw [if_neg hb] at gt
    have hb':Nat.beq (bitN x i) 1=false:=y_beqF hb
    refine ⟨ePut (.int 3 (i + 1)) 22 (ePut (.bool false) 27 (ePut (.int 3 i) 8 (ePut (.bool true) 23 e))),h',n',?_,by simp [g1],by simp [g5],by simp [g21],by simp,by omega,by omega,gf,acc,by omega,gt,by simpa using g7⟩
    simp (discharger:=omega) [lb311_0,g1,g5,g21,g22,his,hb'])
  (fun e h' n' hI=>by
   obtain ⟨g1,g5,g21,g22,gn,gn2,gf,acc,ga,gt,g7⟩:=hI
   rw [Nat.sub_self] at gt
   refine ⟨ePut (.bool false) 23 e,?_,acc,ga,gt,?_,fun q hq=>by rw [gf q (by omega),r5 q hq]⟩
   ·simp (discharger:=omega) [lb311_0,g1,g5,g21,g22]
   ·rcases g7 with ⟨e1,e2⟩ | ⟨b',t,e1,e2,_,_,e5⟩
    ·exact .inl ⟨e1,by simp [e2]⟩
    ·exact .inr ⟨b',t,by simp [e1],e2,e5⟩)
 have htA:getO hA t=some (.cells mt et tt):=by rw [r5 t htn]; exact ht
 obtain ⟨e',h',n',k1,acc,k2,k3,k4,k5⟩:=key 1000000 0 (ePut (.int 3 0) 22 (ePut (.int 3 m) 21 (ePut .nils 7 (ePut (.bool false) 15 (ePut .nili 6 (ePut (.sl mb 0 128 128 false) 5 (ePut .nili 4 (ePut .nils 3 (ePut (.ptr t 0) 1 Ev.nil))))))))) hA (mb + 1) (by omega) (by omega)
  ⟨by simp,by simp,by simp,by simp,by omega,by omega,fun _ _=>rfl,0,by omega,rfl,.inl ⟨rfl,by simp⟩⟩
 rw [← k3]
 rcases k4 with ⟨e1,e2⟩ | ⟨b',t',e1,e2,e3⟩
 ·refine ⟨.nils,h',n',fun k=>?_,k5,by omega,.inl ⟨e1,rfl⟩⟩
  rw [c311 he3,kf311_eq]
  simp (discharger:=omega) [runF,kf311,lenL,r1,htA,t3,k1,e2,clip144N he2]
 ·refine ⟨.sl b' 0 acc acc true,h',n',fun k=>?_,k5,k2,.inr ⟨b',rfl⟩⟩
  have hcl:=fun (k:K)=>clip144I (ex:=ex) (d:=d + 1) (n:=n') (k:=k) he2 e3 e2 (by omega)
  rw [c311 he3,kf311_eq]
  simp (discharger:=omega) [runF,kf311,lenL,r1,htA,t3,k1,e1,hcl]
end
end
end
end Go.Proofs
namespace Go.Proofs
noncomputable section
noncomputable section
open Go Go.VE
set_option maxRecDepth 100000
set_option maxHeartbeats 1000000
set_option linter.all false
theorem iFree_law {ex:Nat→Option I} (hex:ExOk ex) (w:Ways ex) {fb:I} (hw:ex 333=some (zga fb)) (he1:ex 382=none) (he2:ex 110=none) (he3:ex 311=none) (he:ex 221=none) (args:List AV) (h:H) (n:Nat) (k:K) (rr:RR) (hr:zys ((lv (cxT ex) 500).call 221) args h n k=rr) (hne:rr≠.fail):CallLaw Tryz.prog 221 args h n k rr:=by
 have fb:(lv (cxT ex) 500).call 221 args h n k=rr→CallLaw Tryz.prog 221 args h n k rr:=fun e=>run_ok hex 500 221 args h n k rr e hne
 unfold zys at hr
 split at hr
 ·rename_i t o
  rcases zdf hr with ⟨h1,hr1⟩ | hr1
  ·have:=zak h1; subst this
   split at hr1
   ·rename_i c o2 kd a kd3 fr kd2 m e0 e1 e2 e3
    rcases zdf hr1 with ⟨q1,hr2⟩ | hr2
    ·rcases zdf hr2 with ⟨q2,hr3⟩ | hr3
     ·rcases zdf hr3 with ⟨q3,hr4⟩ | hr4
      ·rcases zdf hr4 with ⟨q4,hr5⟩ | hr5
       ·rcases zdf hr5 with ⟨q5,hr6⟩ | hr6
        ·rcases zdf hr6 with ⟨q6,hr7⟩ | hr7
         ·rcases zdf hr7 with ⟨q7,hr8⟩ | hr8
          ·rcases zdf hr8 with ⟨q8,hr9⟩ | hr9
           ·cases hp:cRd h n c a with
            | none=>rw [hp] at hr9; exact fb hr9
            | some p=>
             rw [hp] at hr9
             have:=zak q1; subst this
             have:=zak q2; subst this
             have:=zak q3; subst this
             have:=zak q4; subst this
             rw [Nat.blt_eq] at q5
             rw [Nat.ble_eq] at q6 q7
             obtain ⟨z1,z2⟩:=brb q8
             rw [Nat.blt_eq] at z1
             obtain ⟨zG,z2⟩:=brb z2
             obtain ⟨z3,z4⟩:=okH_inv z2
             obtain ⟨mt,et,tt,f1,f2,f3⟩:=zct e0 (by simp)
             obtain ⟨mt',et',tt',f4,f5,f6⟩:=zct e1 (by simp)
             rw [f1] at f4; cases f4
             obtain ⟨mt',et',tt',f4,f7,f8⟩:=zct e2 (by simp)
             rw [f1] at f4; cases f4
             obtain ⟨mt',et',tt',f4,f9,f10⟩:=zct e3 (by simp)
             rw [f1] at f4; cases f4
             obtain ⟨v,h',n',r1,r2,r3,r4⟩:=all111 (d:=496) w he1 he2 he3 hw f1 f9 f3 f6 f8 f10 z1 q5 q6 q7 hp zG z3 (by omega)
             have hr10:okJ (frc (cutB 128 p.2 0 128) fun x=>some (m - zdo x m 0 0)) h n k ((lv (cxT ex) 500).call 221 [.ptr t 0] h n k)=rr:=hr9
             rw [zam] at hr10
             have hr11:frc (m - zdo (cutB 128 p.2 0 128) m 0 0) (fun u=>k (.tup (.cons (.int 3 u) (.cons .nili .nl))) h n)=rr:=hr10
             rw [zam] at hr11
             have ht':getO h' t=some (.cells mt et tt):=by rw [r2 t z1]; exact f1
             have run:(lv (cxT ex) 500).call 221 [.ptr t 0] h n finK=.fin (.tup (.cons (.int 3 (m - zdo (cutB 128 p.2 0 128) m 0 0)) (.cons .nili .nl))) h' n':=by
              rw [c221 (d:=499) he]
              generalize zdo (cutB 128 p.2 0 128) m 0 0=u at *
              rcases r4 with ⟨u1,u2⟩ | ⟨b,u2⟩
              ·subst u1 u2
               simp (discharger:=omega) [runF,hf221,lenL,r1,ht',f10]
              ·subst u2
               simp (discharger:=omega) [runF,hf221,lenL,r1,ht',f10]
             exact (run_ok hex 500 221 _ h n finK _ run (by simp)).roN r2 rfl hr11
           ·exact fb hr9
          ·exact fb hr8
         ·exact fb hr7
        ·exact fb hr6
       ·exact fb hr5
      ·exact fb hr4
     ·exact fb hr3
    ·exact fb hr2
   ·exact fb hr1
  ·exact fb hr1
 ·exact fb hr
def swC (f:Nat) (i:I) (ex:Nat→Option I) (g:Nat):Option I:=br (Nat.beq g f) (some i) (ex g)
theorem swC_ok {f:Nat} {i:I} {ex:Nat→Option I} (hi:∀ (args:List AV) (h:H) (n:Nat) (k:K) (rr:RR),i args h n k=rr→rr≠.fail→CallLaw Tryz.prog f args h n k rr) (hex:ExOk ex):ExOk (swC f i ex):=fun g j hj=>by
 unfold swC at hj
 rw [zay] at hj
 split at hj
 ·rename_i hb; have:=zak hb; subst this; cases hj; exact hi
 ·exact hex g j hj
end
end
end Go.Proofs
