/- A part of the proof of BootCands: the program run by the evaluator. No condition. -/
import Derived.Test.YtjpelmgihpmohaaGreatDoorVBSwB
import Derived.Test.YtjpelmgihpmohaaGreatDoorVE18
set_option linter.all false
namespace Go.Proofs
noncomputable section
noncomputable section
open Go Go.VE
set_option maxRecDepth 100000
set_option linter.all false
def gT:T AV:=zd2 (.cons (.int 7 1) (.cons (.int 7 10) (.cons (.int 7 100) (.cons (.int 7 1000) .nl)))) 0 .nil
def gG:H:=setO .nil 2 (.cells 4 0 gT)
theorem isI7_ok {v:AV} {u:Nat} (h:isI7 v u=true):v=.int 7 u:=by
 cases v with
 | int k w=>
  obtain ⟨h1,h2⟩:=brb (show br _ _ false=true from h)
  rw [zak h1,zak h2]
 | _=>cases h
theorem cel_ok {h:H} {b i k u:Nat} (e:cel h b i=.int k u):∃ m es t,getO h b=some (.cells m es t)∧i < m∧zag t i=.int k u:=by
 unfold cel at e
 split at e
 ·rename_i m es t hb
  rw [zay] at e
  split at e
  ·rename_i hi
   rw [Nat.blt_eq] at hi
   exact ⟨m,es,t,hb,hi,e⟩
  ·cases e
 ·cases e
theorem gT_at:∀ i,i < 4→∃ u,zag gT i=.int 7 u∧(i=0→u=1)∧(i=1→u=10)∧(i=2→u=100)∧(i=3→u=1000)
 | 0,_=>⟨1,by kernel_rfl,by omega,by omega,by omega,by omega⟩
 | 1,_=>⟨10,by kernel_rfl,by omega,by omega,by omega,by omega⟩
 | 2,_=>⟨100,by kernel_rfl,by omega,by omega,by omega,by omega⟩
 | 3,_=>⟨1000,by kernel_rfl,by omega,by omega,by omega,by omega⟩
 | n + 4,h=>by omega
theorem gG_inv {ρ:Mp} {h:H} {n u:Nat} {w:World} (hG:okG h=true) (hn:n≤N1) (hu:u < 640) (hi:Inv ρ h n w):Inv ρ gG (N1 + u) w:=by
 unfold okG at hG
 obtain ⟨g0,hG⟩:=brb hG
 obtain ⟨g1,hG⟩:=brb hG
 obtain ⟨g2,g3⟩:=brb hG
 obtain ⟨m,es,t,hb,_,c0⟩:=cel_ok (isI7_ok g0)
 obtain ⟨m1,es1,t1,hb1,_,c1⟩:=cel_ok (isI7_ok g1)
 obtain ⟨m2,es2,t2,hb2,_,c2⟩:=cel_ok (isI7_ok g2)
 obtain ⟨m3,es3,t3,hb3,hm,c3⟩:=cel_ok (isI7_ok g3)
 rw [hb] at hb1 hb2 hb3
 cases hb1; cases hb2; cases hb3
 have at2:∀ b o,getO gG b=some o→b=2∧o=.cells 4 0 gT:=by
  intro b o e
  unfold gG at e
  rw [za8 (by decide)] at e
  split at e
  ·rename_i e2; cases e; exact ⟨e2,rfl⟩
  ·rw [z0w] at e; cases e
 refine ⟨fun b o e=>?_,fun b c o p r x y e e2 _ _=>?_,fun b hb=>Nat.lt_of_lt_of_le (hi.dom b hb) (by omega),hi.rng,by unfold N1; omega,hi.st⟩
 ·obtain ⟨rfl,rfl⟩:=at2 b o e
  obtain ⟨r,base,h1,h2⟩:=hi.obj 2 _ hb
  refine ⟨r,base,h1,?_⟩
  cases hx:w.heap[r]? with
  | none=>rw [hx] at h2; cases h2
  | some y=>
   rw [hx] at h2
   cases y<;>first | (cases h2; done) | skip
   obtain ⟨⟨_,hs⟩,hm2,h2⟩:=h2
   refine ⟨⟨fun q=>absurd rfl q,hs⟩,by omega,fun i hi4=>?_⟩
   obtain ⟨v,k1,k2,k3,k4⟩:=h2 i (by omega)
   obtain ⟨u,q,q0,q1,q2,q3⟩:=gT_at i hi4
   have:zag gT i=zag t i:=by
    rw [q]
    rcases i with _ | _ | _ | _ | i
    ·rw [c0,q0 rfl]
    ·rw [c1,q1 rfl]
    ·rw [c2,q2 rfl]
    ·rw [c3,q3 rfl]
    ·omega
   rw [this]
   exact ⟨v,k1,k2,k3,k4⟩
 ·rw [(at2 _ _ e).1,(at2 _ _ e2).1]
def itoaRuns (f:Nat):Nat→Bool:=@Nat.rec (fun _=>Nat→Bool) (fun _=>true) (fun _ go u=>br (br (noP (decN u)) (frc (N1 + u) fun n=>isU ((lv (cxT ex0) 500).call 130 [.int 3 u] gG n (pchk (decN u)))) false) (frc (u + 1) fun u=>go u) false) f
theorem itoa_runs:itoaRuns 640 0=true:=by kernel_rfl
theorem itoaRuns_at:∀ {f u:Nat},itoaRuns f u=true→∀ i,i < f→noP (decN (u + i))=true∧isU ((lv (cxT ex0) 500).call 130 [.int 3 (u + i)] gG (N1 + (u + i)) (pchk (decN (u + i))))=true
 | 0,_,_,_,hi=>by omega
 | f + 1,u,h,i,hi=>by
  obtain ⟨h1,h2⟩:=brb (show br _ _ false=true from h)
  obtain ⟨h3,h4⟩:=brb h1
  cases i with
  | zero=>rw [zam] at h4; exact ⟨h3,h4⟩
  | succ i=>
   rw [zam] at h2
   have:=itoaRuns_at h2 i (by omega)
   rwa [show u + 1 + i=u + (i + 1) from by omega] at this
theorem iItoa_law (args:List AV) (h:H) (n:Nat) (k:K) (rr:RR) (hr:zsx 640 ((lv (cxT ex0) 500).call 130) args h n k=rr) (hne:rr≠.fail):CallLaw Tryz.prog 130 args h n k rr:=by
 have fbk:∀ args,(lv (cxT ex0) 500).call 130 args h n k=rr→CallLaw Tryz.prog 130 args h n k rr:=fun args hr=>run_ok ex0_ok 500 130 args h n k rr hr hne
 match args,hr with
 | [.int kd u],hr=>
  have hr':br (Nat.beq kd 3) (br (Nat.blt u 640) (br (br (okG h) (Nat.ble n N1) false) (strK (decN u) h n k) ((lv (cxT ex0) 500).call 130 [.int kd u] h n k)) ((lv (cxT ex0) 500).call 130 [.int kd u] h n k)) ((lv (cxT ex0) 500).call 130 [.int kd u] h n k)=rr:=hr
  rcases zdf hr' with ⟨h1,hr1⟩ | hr
  ·rcases zdf hr1 with ⟨h2,hr2⟩ | hr
   ·rcases zdf hr2 with ⟨h3,hr3⟩ | hr
    ·obtain ⟨hG,hn⟩:=brb h3
     have:=zak h1; subst this
     rw [Nat.blt_eq] at h2
     have q:=itoaRuns_at itoa_runs u h2
     rw [Nat.zero_add] at q
     obtain ⟨h',e⟩:=zxo q.2
     refine (run_ok ex0_ok 500 130 [.int 3 u] gG (N1 + u) (pchk (decN u)) _ e (by simp)).lowW q.1 (fun v1 h1 n1 e=>?_) (fun b o e=>?_) (fun ρ w hi=>gG_inv hG (Nat.le_of_ble_eq_true hn) h2 hi) ?_
     ·unfold pchk at e
      obtain ⟨e1,_⟩:=zab e (by simp)
      exact (zfu _ _ e1).symm
     ·unfold gG at e
      rw [za8 (by decide)] at e
      split at e
      ·rename_i e2; subst e2; decide
      ·rw [z0w] at e; cases e
     ·have:∃ a x,decN u=.str a x:=by
       unfold decN
       rw [zay,zay,zay]
       split
       ·exact ⟨_,_,rfl⟩
       split
       ·exact ⟨_,_,rfl⟩
       split<;>exact ⟨_,_,rfl⟩
      obtain ⟨a,x,e⟩:=this
      rw [e] at hr3 ⊢
      rw [← hr3]
      show _=frc x fun x=>k (.str a x) h n
      rw [zam]
    ·exact fbk _ hr
   ·exact fbk _ hr
  ·exact fbk _ hr
 | [] ,hr=>exact fbk _ hr
 | .int _ _ :: _ :: _,hr=>exact fbk _ hr
 | .undef :: _ :: _,hr=>exact fbk _ hr
 | .bool _ :: _ :: _,hr=>exact fbk _ hr
 | .ptr _ _ :: _ :: _,hr=>exact fbk _ hr
 | .sl _ _ _ _ _ :: _ :: _,hr=>exact fbk _ hr
 | .str _ _ :: _ :: _,hr=>exact fbk _ hr
 | .iface _ _ :: _ :: _,hr=>exact fbk _ hr
 | .nilp :: _ :: _,hr=>exact fbk _ hr
 | .nils :: _ :: _,hr=>exact fbk _ hr
 | .nili :: _ :: _,hr=>exact fbk _ hr
 | .nilm :: _ :: _,hr=>exact fbk _ hr
 | .nilf :: _ :: _,hr=>exact fbk _ hr
 | .map _ :: _ :: _,hr=>exact fbk _ hr
 | .func _ _ :: _ :: _,hr=>exact fbk _ hr
 | .agg _ :: _ :: _,hr=>exact fbk _ hr
 | .tup _ :: _ :: _,hr=>exact fbk _ hr
 | .nl :: _ :: _,hr=>exact fbk _ hr
 | .cons _ _ :: _ :: _,hr=>exact fbk _ hr
 | .yld _ :: _ :: _,hr=>exact fbk _ hr
 | .ukn _ _ _ :: _ :: _,hr=>exact fbk _ hr
 | [.undef],hr=>exact fbk _ hr
 | [.bool _],hr=>exact fbk _ hr
 | [.ptr _ _],hr=>exact fbk _ hr
 | [.sl _ _ _ _ _],hr=>exact fbk _ hr
 | [.str _ _],hr=>exact fbk _ hr
 | [.iface _ _],hr=>exact fbk _ hr
 | [.nilp],hr=>exact fbk _ hr
 | [.nils],hr=>exact fbk _ hr
 | [.nili],hr=>exact fbk _ hr
 | [.nilm],hr=>exact fbk _ hr
 | [.nilf],hr=>exact fbk _ hr
 | [.map _],hr=>exact fbk _ hr
 | [.func _ _],hr=>exact fbk _ hr
 | [.agg _],hr=>exact fbk _ hr
 | [.tup _],hr=>exact fbk _ hr
 | [.nl],hr=>exact fbk _ hr
 | [.cons _ _],hr=>exact fbk _ hr
 | [.yld _],hr=>exact fbk _ hr
 | [.ukn _ _ _],hr=>exact fbk _ hr
def exI:Nat→Option I:=swC 130 (zsx 640 ((lv (cxT ex0) 500).call 130)) ex0
theorem exI_ok:ExOk exI:=swC_ok iItoa_law ex0_ok
def exR:Nat→Option I:=swC 333 (zga ((lv (cxT exI) 500).call 333)) exI
theorem ways_of {ex:Nat→Option I} (h1:∃ fb,ex 130=some (zsx 640 fb)) (h2:List.all [91,401,275,274,402,444,323,403,247,162,252,334,335,336,221,311,382,384,300] (fun f=>(ex f).isNone)=true):Ways ex:=
 ⟨h1,fun f hf=>by simpa using List.all_eq_true.1 h2 f hf⟩
theorem exI_ways:Ways exI:=ways_of ⟨_,rfl⟩ rfl
theorem exR_ok:ExOk exR:=swC_ok (iCRead_law exI_ok exI_ways rfl) exI_ok
theorem exR_ways:Ways exR:=ways_of ⟨_,rfl⟩ rfl
def exL (f:Nat):Option I:=swC 162 (zyv ((lv (cxT exR) 500).call 162)) (swC 221 (zys ((lv (cxT exR) 500).call 221)) (swC 300 (zsz ((lv (cxT exR) 500).call 300)) exR)) f
theorem exL_ok:ExOk exL:=swC_ok (iLeft_law exR_ok exR_ways rfl rfl) (swC_ok (iFree_law exR_ok exR_ways rfl rfl rfl rfl rfl) (swC_ok (iParts_law exR_ok rfl) exR_ok))
end
end
end Go.Proofs
namespace Go.Proofs
noncomputable section
noncomputable section
open Go Go.VE
set_option maxRecDepth 100000
set_option maxHeartbeats 1000000
set_option linter.all false
def signRuns (f:Nat):Nat→Bool:=@Nat.rec (fun _=>Nat→Bool) (fun _=>true) (fun _ go u=>br (isU ((lv (cxT ex0) 500).call 297 [.int 4 u] .nil N1 (pchk (.bool (okB u))))) (frc (u + 1) fun u=>go u) false) f
theorem sign_runs:signRuns 256 0=true:=by kernel_rfl
theorem signRuns_at:∀ {f u:Nat},signRuns f u=true→∀ i,i < f→isU ((lv (cxT ex0) 500).call 297 [.int 4 (u + i)] .nil N1 (pchk (.bool (okB (u + i)))))=true
 | 0,_,_,_,hi=>by omega
 | f + 1,u,h,i,hi=>by
  obtain ⟨h1,h2⟩:=brb (show br _ _ false=true from h)
  cases i with
  | zero=>exact h1
  | succ i=>
   rw [zam] at h2
   have:=signRuns_at h2 i (by omega)
   rwa [show u + 1 + i=u + (i + 1) from by omega] at this
theorem iSign_law {ex:Nat→Option I} (hex:ExOk ex) (args:List AV) (h:H) (n:Nat) (k:K) (rr:RR) (hr:zq8 ((lv (cxT ex) 500).call 297) args h n k=rr) (hne:rr≠.fail):CallLaw Tryz.prog 297 args h n k rr:=by
 have fbk:(lv (cxT ex) 500).call 297 args h n k=rr→CallLaw Tryz.prog 297 args h n k rr:=fun hr=>run_ok hex 500 297 args h n k rr hr hne
 unfold zq8 at hr
 split at hr
 ·rename_i kd u
  rcases zdf hr with ⟨h1,hr1⟩ | hr
  ·rcases zdf hr1 with ⟨h2,hr2⟩ | hr
   ·rcases zdf hr2 with ⟨h3,hr3⟩ | hr
    ·have:=zak h1; subst this
     rw [Nat.blt_eq] at h2
     have q:=signRuns_at sign_runs u h2
     rw [Nat.zero_add] at q
     obtain ⟨h',e⟩:=zxo q
     refine CallLaw.low (v:=.bool (okB u)) (run_ok ex0_ok 500 297 [.int 4 u] .nil N1 (pchk (.bool (okB u))) _ e (by simp)) rfl (fun v1 h1 n1 e=>?_) (fun b o e=>?_) (Nat.le_of_ble_eq_true h3) (by decide) ?_
     ·unfold pchk at e
      obtain ⟨e1,_⟩:=zab e (by simp)
      exact (zfu _ _ e1).symm
     ·rw [z0w] at e; cases e
     ·rw [← hr3]; unfold okT; cases okB u<;>rfl
    ·exact fbk hr
   ·exact fbk hr
  ·exact fbk hr
 ·exact fbk hr
section
open Lo Lo.Pr Sl
def lb210_0 [Pr]:X:=(sq (fun c e=>lt (g23 e) (g22 e) fun x1=>let e1:=p24 x1 e;nr e1)
(Q (cd g24 zaa
(zae 0))
(Q (Bk 1 (sq (fun c e=>let e1:=p4 (g23 e) e;nr e1)
(sq (fun c e=>ix (g1 e) (g4 e) fun x1=>cl c 297 [x1] fun x2=>nt x2 fun x3=>let e1:=p30 x3 e;nr e1)
(cd g30 (sq (fun c e=>let e1:=p3 (.bool false) e;nr e1) R) zaa))))
(on fun c e=>ad (g23 e) (.int 3 1) fun x1=>let e1:=p23 x1 e;nr e1))))
def kf210 [Pr]:LF:=LF.mk [.tmp 3] (sq (fun c e=>let e1:=p3 (.bool false) e;nr e1)
(Q (Q (xOps [m 1,q (ze1 (L 0)),q (oLt 3 Z M (L 0) (i 1)),w 0,g 0 0 false (oMv (t 1)),g 0 1 false (ze1 (L 0)),g 0 2 false (oLt 3 Z M (i 27) (L 0)),q (zan (L 3) (sC (.bool true)) (L 0)),w 0,g 0 0 false (oMv (t 1)),g 0 1 false (oEq eqS (L 0) (s 1 46)),q (zan (L 2) (sC (.bool true)) (L 0)),w 0,g 0 0 false (oMv (t 1)),g 0 1 false (oEq eqS (L 0) (s 2 11822)),p 20 (zan (L 2) (sC (.bool true)) (L 0))])
(cd g20 (sq (fun c e=>let e1:=p3 (.bool false) e;nr e1) R) zaa))
(Q (sq (fun c e=>ls (g1 e) fun x1=>let e1:=p22 x1 e;let e2:=p23 (.int 3 0) e1;nr e2)
(Bk 0 (Lp lb210_0)))
(sq (fun c e=>let e1:=p3 (.bool true) e;nr e1) R))))
theorem kf210_eq:@hf210 Lo.slow=@kf210 Lo.slow:=rfl
end
theorem c210 {ex:Nat→Option I} (he:ex 210=none) {d:Nat} {args:List AV} {h:H} {n:Nat} {k:K}:(lv (cxT ex) (d + 1)).call 210 args h n k=runF (lv (cxT ex) d) (@hf210 Lo.slow) args h n k:=by
 rw [← Lo.fast_eq]; exact call_code he (by kernel_rfl) (by kernel_rfl)
theorem nameL_succ {m x f i:Nat} (e:zre m x (f + 1) i=true):okB (zar m x i)=true∧zre m x f (i + 1)=true:=by
 obtain ⟨h1,h2⟩:=brb (show br _ _ false=true from e)
 rw [zam] at h2
 exact ⟨h1,h2⟩
theorem nameOk_inv {m x:Nat} (e:zti m x=true):1≤m∧m≤27∧br (Nat.beq m 1) (Nat.beq x 46) false=false∧br (Nat.beq m 2) (Nat.beq x 11822) false=false∧zre m x m 0=true:=by
 obtain ⟨h1,e⟩:=brb (show br _ _ false=true from e)
 obtain ⟨h2,e⟩:=brb e
 rw [Nat.ble_eq] at h1 h2
 refine ⟨h1,h2,?_⟩
 cases h3:br (Nat.beq m 1) (Nat.beq x 46) false with
 | true=>rw [h3] at e; cases e
 | false=>
  rw [h3] at e
  have e':br (br (Nat.beq m 2) (Nat.beq x 11822) false) false (zre m x m 0)=true:=e
  cases h4:br (Nat.beq m 2) (Nat.beq x 11822) false with
  | true=>rw [h4] at e'; cases e'
  | false=>rw [h4] at e'; exact ⟨rfl,rfl,e'⟩
theorem y_ixS {m y u:Nat} {h:H} {n:Nat} {k:K} (h1:u < m) (h2:m < 9223372036854775808):zlx (.str m y) (.int 3 u) h n k=k (.int 4 (zar m y u)) h n:=by
 show br (Nat.blt u 9223372036854775808) (br (Nat.blt u m) (frc (zar m y u) fun c=>k (.int 4 c) h n) .fail) .fail=_
 rw [y_bltT (show u < 9223372036854775808 by omega),y_bltT h1,y_brT,y_brT,zam]
theorem y_lenS {m y:Nat} {h:H} {n:Nat} {k:K} (h2:m < 9223372036854775808):zl0 (.str m y) h n k=k (.int 3 m) h n:=by
 show br (Nat.blt m 9223372036854775808) (frc m fun m=>k (.int 3 m) h n) .fail=_
 rw [y_bltT h2,y_brT,zam]
theorem y_olenS {x:Sx} {call:zbc} {ls:List AV} {e:Env} {h:H} {n:Nat} {k:K}:ze1 x call ls e h n k=zl0 (x ls e) h n k:=rfl
section
variable {ex:Nat→Option I} {d:Nat} {h:H} {n:Nat} {k:K}
theorem sign_way {fb:I} (hw:ex 297=some (zq8 fb)) {c:Nat} (hc:c < 256) (hok:okB c=true) (hn:n≤9223372036854775808):(lv (cxT ex) (d + 1)).call 297 [.int 4 c] h n k=k (.bool true) h n:=by
 rw [call_way hw]
 show br (Nat.beq 4 4) (br (Nat.blt c 256) (br (Nat.ble n 9223372036854775808) (okT (okB c) h n k) (fb [.int 4 c] h n k)) (fb [.int 4 c] h n k)) (fb [.int 4 c] h n k)=_
 rw [y_bltT hc,y_bleT hn,hok]
 rfl
theorem name172 (he:ex 210=none) {fb:I} (hw:ex 297=some (zq8 fb)) {m x:Nat} (hm:zti m x=true) (hn:n≤9223372036854775808):(lv (cxT ex) (d + 2)).call 210 [.str m x] h n k=k (.bool true) h n:=by
 obtain ⟨m1,m2,q1,q2,hl⟩:=nameOk_inv hm
 have e1:eqS (.str m x) (.str 1 46)=some false:=by rw [← q1]; rfl
 have e2:eqS (.str m x) (.str 2 11822)=some false:=by rw [← q2]; rfl
 have key:=zgp (id:=0) (N:=m) (b:=@lb210_0 Lo.slow (lv (cxT ex) (d + 1))) (fun i e' h' n'=>h'=h∧n'=n∧eAt 1 e'=.str m x∧eAt 22 e'=.int 3 m∧eAt 23 e'=.int 3 i∧zre m x (m - i) i=true)
  (fun e' h' n'=>h'=h∧n'=n)
  (fun i e' h' n' hi hI=>by
   obtain ⟨rfl,rfl,k1,k22,k23,kl⟩:=hI
   rw [show m - i=(m - (i + 1)) + 1 by omega] at kl
   obtain ⟨a1,a2⟩:=nameL_succ kl
   have sg:=fun (k:K)=>sign_way (d:=d) (h:=h') (n:=n') (k:=k) hw (zcs m x i) a1 hn
   refine ⟨ePut (.int 3 (i + 1)) 23 (ePut (.bool false) 30 (ePut (.int 3 i) 4 (ePut (.bool true) 24 e'))),h',n',?_,rfl,rfl,by simp [k1],by simp [k22],by simp,a2⟩
   simp (discharger:=omega) [lb210_0,k1,k22,k23,y_ixS,sg])
  (fun e' h' n' hI=>by
   obtain ⟨rfl,rfl,k1,k22,k23,kl⟩:=hI
   refine ⟨ePut (.bool false) 24 e',?_,rfl,rfl⟩
   simp (discharger:=omega) [lb210_0,k22,k23])
 obtain ⟨e2',h2,n2,r1,rfl,rfl⟩:=key 1000000 0 (ePut (.int 3 0) 23 (ePut (.int 3 m) 22 (ePut (.bool false) 20 (ePut (.bool false) 3 (ePut (.str m x) 1 Ev.nil))))) h n (by omega) (by omega) ⟨rfl,rfl,by simp,by simp,by simp,hl⟩
 rw [c210 he,kf210_eq]
 simp (discharger:=omega) [runF,kf210,lenL,y_olenS,y_lenS,r1,e1,e2]
end
theorem iName_law {ex:Nat→Option I} (hex:ExOk ex) (he:ex 210=none) {fb:I} (hw:ex 297=some (zq8 fb)) (args:List AV) (h:H) (n:Nat) (k:K) (rr:RR) (hr:zyw ((lv (cxT ex) 500).call 210) args h n k=rr) (hne:rr≠.fail):CallLaw Tryz.prog 210 args h n k rr:=by
 have fbk:(lv (cxT ex) 500).call 210 args h n k=rr→CallLaw Tryz.prog 210 args h n k rr:=fun hr=>run_ok hex 500 210 args h n k rr hr hne
 unfold zyw at hr
 split at hr
 ·rename_i m x
  rcases zdf hr with ⟨h1,hr1⟩ | hr
  ·rcases zdf hr1 with ⟨h2,hr2⟩ | hr
   ·exact fbk ((name172 (d:=498) he hw h1 (Nat.le_of_ble_eq_true h2)).trans hr2)
   ·exact fbk hr
  ·exact fbk hr
 ·exact fbk hr
def exS:Nat→Option I:=swC 297 (zq8 ((lv (cxT exL) 500).call 297)) exL
theorem exS_ok:ExOk exS:=swC_ok (iSign_law exL_ok) exL_ok
def exN:Nat→Option I:=swC 210 (zyw ((lv (cxT exS) 500).call 210)) exS
theorem exN_ok:ExOk exN:=swC_ok (iName_law exS_ok rfl rfl) exS_ok
end
end
end Go.Proofs
