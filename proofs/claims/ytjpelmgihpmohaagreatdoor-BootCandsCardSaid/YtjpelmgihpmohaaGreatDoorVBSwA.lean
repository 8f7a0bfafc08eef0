/- A part of the proof of BootCands: the program run by the evaluator. No condition. -/
import Derived.Test.YtjpelmgihpmohaaGreatDoorVBLowB
import Derived.Test.YtjpelmgihpmohaaGreatDoorVE18
import Derived.Test.YtjpelmgihpmohaaGreatDoorVBCx
set_option linter.all false
namespace Go.Proofs
noncomputable section
noncomputable section
open Go Go.VE
set_option maxRecDepth 100000
@[simp] theorem g1_eq (e:Ev):Sl.g1 e=eAt 1 e:=id rfl
@[simp] theorem g2_eq (e:Ev):Sl.g2 e=eAt 2 e:=id rfl
@[simp] theorem g3_eq (e:Ev):Sl.g3 e=eAt 3 e:=id rfl
@[simp] theorem g4_eq (e:Ev):Sl.g4 e=eAt 4 e:=id rfl
@[simp] theorem g5_eq (e:Ev):Sl.g5 e=eAt 5 e:=id rfl
@[simp] theorem g6_eq (e:Ev):Sl.g6 e=eAt 6 e:=id rfl
@[simp] theorem g7_eq (e:Ev):Sl.g7 e=eAt 7 e:=id rfl
@[simp] theorem g8_eq (e:Ev):Sl.g8 e=eAt 8 e:=id rfl
@[simp] theorem g9_eq (e:Ev):Sl.g9 e=eAt 9 e:=id rfl
@[simp] theorem g10_eq (e:Ev):Sl.g10 e=eAt 10 e:=id rfl
@[simp] theorem g11_eq (e:Ev):Sl.g11 e=eAt 11 e:=id rfl
@[simp] theorem g12_eq (e:Ev):Sl.g12 e=eAt 12 e:=id rfl
@[simp] theorem g13_eq (e:Ev):Sl.g13 e=eAt 13 e:=id rfl
@[simp] theorem g14_eq (e:Ev):Sl.g14 e=eAt 14 e:=id rfl
@[simp] theorem g15_eq (e:Ev):Sl.g15 e=eAt 15 e:=id rfl
@[simp] theorem g16_eq (e:Ev):Sl.g16 e=eAt 16 e:=id rfl
@[simp] theorem g17_eq (e:Ev):Sl.g17 e=eAt 17 e:=id rfl
@[simp] theorem g18_eq (e:Ev):Sl.g18 e=eAt 18 e:=id rfl
@[simp] theorem g20_eq (e:Ev):Sl.g20 e=eAt 20 e:=id rfl
@[simp] theorem g21_eq (e:Ev):Sl.g21 e=eAt 21 e:=id rfl
@[simp] theorem g22_eq (e:Ev):Sl.g22 e=eAt 22 e:=id rfl
@[simp] theorem g23_eq (e:Ev):Sl.g23 e=eAt 23 e:=id rfl
@[simp] theorem g24_eq (e:Ev):Sl.g24 e=eAt 24 e:=id rfl
@[simp] theorem g26_eq (e:Ev):Sl.g26 e=eAt 26 e:=id rfl
@[simp] theorem g27_eq (e:Ev):Sl.g27 e=eAt 27 e:=id rfl
@[simp] theorem g29_eq (e:Ev):Sl.g29 e=eAt 29 e:=id rfl
@[simp] theorem g30_eq (e:Ev):Sl.g30 e=eAt 30 e:=id rfl
@[simp] theorem g33_eq (e:Ev):Sl.g33 e=eAt 33 e:=id rfl
@[simp] theorem g45_eq (e:Ev):Sl.g45 e=eAt 45 e:=id rfl
@[simp] theorem g58_eq (e:Ev):Sl.g58 e=eAt 58 e:=id rfl
@[simp] theorem g74_eq (e:Ev):Sl.g74 e=eAt 74 e:=id rfl
@[simp] theorem p1_eq (v:AV) (e:Ev):Sl.p1 v e=ePut v 1 e:=id rfl
@[simp] theorem p2_eq (v:AV) (e:Ev):Sl.p2 v e=ePut v 2 e:=id rfl
@[simp] theorem p3_eq (v:AV) (e:Ev):Sl.p3 v e=ePut v 3 e:=id rfl
@[simp] theorem p4_eq (v:AV) (e:Ev):Sl.p4 v e=ePut v 4 e:=id rfl
@[simp] theorem p5_eq (v:AV) (e:Ev):Sl.p5 v e=ePut v 5 e:=id rfl
@[simp] theorem p6_eq (v:AV) (e:Ev):Sl.p6 v e=ePut v 6 e:=id rfl
@[simp] theorem p7_eq (v:AV) (e:Ev):Sl.p7 v e=ePut v 7 e:=id rfl
@[simp] theorem p8_eq (v:AV) (e:Ev):Sl.p8 v e=ePut v 8 e:=id rfl
@[simp] theorem p9_eq (v:AV) (e:Ev):Sl.p9 v e=ePut v 9 e:=id rfl
@[simp] theorem p10_eq (v:AV) (e:Ev):Sl.p10 v e=ePut v 10 e:=id rfl
@[simp] theorem p11_eq (v:AV) (e:Ev):Sl.p11 v e=ePut v 11 e:=id rfl
@[simp] theorem p12_eq (v:AV) (e:Ev):Sl.p12 v e=ePut v 12 e:=id rfl
@[simp] theorem p13_eq (v:AV) (e:Ev):Sl.p13 v e=ePut v 13 e:=id rfl
@[simp] theorem p14_eq (v:AV) (e:Ev):Sl.p14 v e=ePut v 14 e:=id rfl
@[simp] theorem p15_eq (v:AV) (e:Ev):Sl.p15 v e=ePut v 15 e:=id rfl
@[simp] theorem p16_eq (v:AV) (e:Ev):Sl.p16 v e=ePut v 16 e:=id rfl
@[simp] theorem p17_eq (v:AV) (e:Ev):Sl.p17 v e=ePut v 17 e:=id rfl
@[simp] theorem p18_eq (v:AV) (e:Ev):Sl.p18 v e=ePut v 18 e:=id rfl
@[simp] theorem p20_eq (v:AV) (e:Ev):Sl.p20 v e=ePut v 20 e:=id rfl
@[simp] theorem p21_eq (v:AV) (e:Ev):Sl.p21 v e=ePut v 21 e:=id rfl
@[simp] theorem p22_eq (v:AV) (e:Ev):Sl.p22 v e=ePut v 22 e:=id rfl
@[simp] theorem p23_eq (v:AV) (e:Ev):Sl.p23 v e=ePut v 23 e:=id rfl
@[simp] theorem p24_eq (v:AV) (e:Ev):Sl.p24 v e=ePut v 24 e:=id rfl
@[simp] theorem p26_eq (v:AV) (e:Ev):Sl.p26 v e=ePut v 26 e:=id rfl
@[simp] theorem p27_eq (v:AV) (e:Ev):Sl.p27 v e=ePut v 27 e:=id rfl
@[simp] theorem p29_eq (v:AV) (e:Ev):Sl.p29 v e=ePut v 29 e:=id rfl
@[simp] theorem p30_eq (v:AV) (e:Ev):Sl.p30 v e=ePut v 30 e:=id rfl
@[simp] theorem p33_eq (v:AV) (e:Ev):Sl.p33 v e=ePut v 33 e:=id rfl
@[simp] theorem p45_eq (v:AV) (e:Ev):Sl.p45 v e=ePut v 45 e:=id rfl
@[simp] theorem p58_eq (v:AV) (e:Ev):Sl.p58 v e=ePut v 58 e:=id rfl
@[simp] theorem p74_eq (v:AV) (e:Ev):Sl.p74 v e=ePut v 74 e:=id rfl
end
end
end Go.Proofs
namespace Go.Proofs
noncomputable section
noncomputable section
open Go Go.VE
set_option maxRecDepth 100000
set_option linter.all false
theorem call_code {ex:Nat→Option I} {f:Nat} {lf:LF} (he:ex f=none) (hi:zop tabT (zgy f isT)=none) (hc:zmx (ctL.get (f + 1))=some lf) {d:Nat} {args:List AV} {h:H} {n:Nat} {k:K}:
  (lv (cxT ex) (d + 1)).call f args h n k=runF (lv (cxT ex) d) lf args h n k:=by
 show zpv args h n k (zpu (lv (cxT ex) d) args h n k (zmx (ctL.get (f + 1)))) (br (bitM f) (match ex f with | some i=>some i | none=>zop tabT (zgy f isT)) none)=_
 rw [he,hi,hc]
 cases bitM f<;>rfl
theorem call_way {ex:Nat→Option I} {f:Nat} {i:I} (he:ex f=some i) (hm:bitM f=true:=by kernel_rfl) {d:Nat} {args:List AV} {h:H} {n:Nat} {k:K}:(lv (cxT ex) (d + 1)).call f args h n k=i args h n k:=by
 show zpv args h n k (zpu (lv (cxT ex) d) args h n k (zmx (ctL.get (f + 1)))) (br (bitM f) (match ex f with | some i=>some i | none=>zop tabT (zgy f isT)) none)=_
 rw [he,hm]; rfl
theorem c91 {ex:Nat→Option I} (he:ex 91=none) {d:Nat} {args:List AV} {h:H} {n:Nat} {k:K}:(lv (cxT ex) (d + 1)).call 91 args h n k=runF (lv (cxT ex) d) (@hf91 Lo.slow) args h n k:=by
 rw [← Lo.fast_eq]; exact call_code he (by kernel_rfl) (by kernel_rfl)
theorem c401 {ex:Nat→Option I} (he:ex 401=none) {d:Nat} {args:List AV} {h:H} {n:Nat} {k:K}:(lv (cxT ex) (d + 1)).call 401 args h n k=runF (lv (cxT ex) d) (@hf401 Lo.slow) args h n k:=by
 rw [← Lo.fast_eq]; exact call_code he (by kernel_rfl) (by kernel_rfl)
theorem c275 {ex:Nat→Option I} (he:ex 275=none) {d:Nat} {args:List AV} {h:H} {n:Nat} {k:K}:(lv (cxT ex) (d + 1)).call 275 args h n k=runF (lv (cxT ex) d) (@hf275 Lo.slow) args h n k:=by
 rw [← Lo.fast_eq]; exact call_code he (by kernel_rfl) (by kernel_rfl)
theorem c274 {ex:Nat→Option I} (he:ex 274=none) {d:Nat} {args:List AV} {h:H} {n:Nat} {k:K}:(lv (cxT ex) (d + 1)).call 274 args h n k=runF (lv (cxT ex) d) (@hf274 Lo.slow) args h n k:=by
 rw [← Lo.fast_eq]; exact call_code he (by kernel_rfl) (by kernel_rfl)
theorem c402 {ex:Nat→Option I} (he:ex 402=none) {d:Nat} {args:List AV} {h:H} {n:Nat} {k:K}:(lv (cxT ex) (d + 1)).call 402 args h n k=runF (lv (cxT ex) d) (@hf402 Lo.slow) args h n k:=by
 rw [← Lo.fast_eq]; exact call_code he (by kernel_rfl) (by kernel_rfl)
theorem c444 {ex:Nat→Option I} (he:ex 444=none) {d:Nat} {args:List AV} {h:H} {n:Nat} {k:K}:(lv (cxT ex) (d + 1)).call 444 args h n k=runF (lv (cxT ex) d) (@hf444 Lo.slow) args h n k:=by
 rw [← Lo.fast_eq]; exact call_code he (by kernel_rfl) (by kernel_rfl)
theorem c323 {ex:Nat→Option I} (he:ex 323=none) {d:Nat} {args:List AV} {h:H} {n:Nat} {k:K}:(lv (cxT ex) (d + 1)).call 323 args h n k=runF (lv (cxT ex) d) (@hf323 Lo.slow) args h n k:=by
 rw [← Lo.fast_eq]; exact call_code he (by kernel_rfl) (by kernel_rfl)
theorem c403 {ex:Nat→Option I} (he:ex 403=none) {d:Nat} {args:List AV} {h:H} {n:Nat} {k:K}:(lv (cxT ex) (d + 1)).call 403 args h n k=runF (lv (cxT ex) d) (@hf403 Lo.slow) args h n k:=by
 rw [← Lo.fast_eq]; exact call_code he (by kernel_rfl) (by kernel_rfl)
theorem c247 {ex:Nat→Option I} (he:ex 247=none) {d:Nat} {args:List AV} {h:H} {n:Nat} {k:K}:(lv (cxT ex) (d + 1)).call 247 args h n k=runF (lv (cxT ex) d) (@hf247 Lo.slow) args h n k:=by
 rw [← Lo.fast_eq]; exact call_code he (by kernel_rfl) (by kernel_rfl)
theorem c333 {ex:Nat→Option I} (he:ex 333=none) {d:Nat} {args:List AV} {h:H} {n:Nat} {k:K}:(lv (cxT ex) (d + 1)).call 333 args h n k=runF (lv (cxT ex) d) (@hf333 Lo.slow) args h n k:=by
 rw [← Lo.fast_eq]; exact call_code he (by kernel_rfl) (by kernel_rfl)
theorem c162 {ex:Nat→Option I} (he:ex 162=none) {d:Nat} {args:List AV} {h:H} {n:Nat} {k:K}:(lv (cxT ex) (d + 1)).call 162 args h n k=runF (lv (cxT ex) d) (@hf162 Lo.slow) args h n k:=by
 rw [← Lo.fast_eq]; exact call_code he (by kernel_rfl) (by kernel_rfl)
theorem c252 {ex:Nat→Option I} (he:ex 252=none) {d:Nat} {args:List AV} {h:H} {n:Nat} {k:K}:(lv (cxT ex) (d + 1)).call 252 args h n k=runF (lv (cxT ex) d) (@hf252 Lo.slow) args h n k:=by
 rw [← Lo.fast_eq]; exact call_code he (by kernel_rfl) (by kernel_rfl)
theorem c334 {ex:Nat→Option I} (he:ex 334=none) {d:Nat} {args:List AV} {h:H} {n:Nat} {k:K}:(lv (cxT ex) (d + 1)).call 334 args h n k=runF (lv (cxT ex) d) (@hf334 Lo.slow) args h n k:=by
 rw [← Lo.fast_eq]; exact call_code he (by kernel_rfl) (by kernel_rfl)
theorem c335 {ex:Nat→Option I} (he:ex 335=none) {d:Nat} {args:List AV} {h:H} {n:Nat} {k:K}:(lv (cxT ex) (d + 1)).call 335 args h n k=runF (lv (cxT ex) d) (@hf335 Lo.slow) args h n k:=by
 rw [← Lo.fast_eq]; exact call_code he (by kernel_rfl) (by kernel_rfl)
theorem c336 {ex:Nat→Option I} (he:ex 336=none) {d:Nat} {args:List AV} {h:H} {n:Nat} {k:K}:(lv (cxT ex) (d + 1)).call 336 args h n k=runF (lv (cxT ex) d) (@hf336 Lo.slow) args h n k:=by
 rw [← Lo.fast_eq]; exact call_code he (by kernel_rfl) (by kernel_rfl)
theorem c221 {ex:Nat→Option I} (he:ex 221=none) {d:Nat} {args:List AV} {h:H} {n:Nat} {k:K}:(lv (cxT ex) (d + 1)).call 221 args h n k=runF (lv (cxT ex) d) (@hf221 Lo.slow) args h n k:=by
 rw [← Lo.fast_eq]; exact call_code he (by kernel_rfl) (by kernel_rfl)
theorem c311 {ex:Nat→Option I} (he:ex 311=none) {d:Nat} {args:List AV} {h:H} {n:Nat} {k:K}:(lv (cxT ex) (d + 1)).call 311 args h n k=runF (lv (cxT ex) d) (@hf311 Lo.slow) args h n k:=by
 rw [← Lo.fast_eq]; exact call_code he (by kernel_rfl) (by kernel_rfl)
theorem c382 {ex:Nat→Option I} (he:ex 382=none) {d:Nat} {args:List AV} {h:H} {n:Nat} {k:K}:(lv (cxT ex) (d + 1)).call 382 args h n k=runF (lv (cxT ex) d) (@hf382 Lo.slow) args h n k:=by
 rw [← Lo.fast_eq]; exact call_code he (by kernel_rfl) (by kernel_rfl)
theorem c384 {ex:Nat→Option I} (he:ex 384=none) {d:Nat} {args:List AV} {h:H} {n:Nat} {k:K}:(lv (cxT ex) (d + 1)).call 384 args h n k=runF (lv (cxT ex) d) (@hf384 Lo.slow) args h n k:=by
 rw [← Lo.fast_eq]; exact call_code he (by kernel_rfl) (by kernel_rfl)
theorem c300 {ex:Nat→Option I} (he:ex 300=none) {d:Nat} {args:List AV} {h:H} {n:Nat} {k:K}:(lv (cxT ex) (d + 1)).call 300 args h n k=runF (lv (cxT ex) d) (@hf300 Lo.slow) args h n k:=by
 rw [← Lo.fast_eq]; exact call_code he (by kernel_rfl) (by kernel_rfl)

end
end
end Go.Proofs
namespace Go.Proofs
noncomputable section
noncomputable section
open Go Go.VE
set_option maxRecDepth 100000
set_option linter.all false
theorem okG_mono {h h':H} (e:getO h' 2=getO h 2):okG h'=okG h:=by
 unfold okG cel
 rw [e]
theorem iItoa_run {most u:Nat} {fb:I} {h:H} {n:Nat} {k:K} (hu:u < most) (hG:okG h=true) (hn:n≤9223372036854775808):zsx most fb [.int 3 u] h n k=k (decN u) h n:=by
 show br (Nat.blt u most) (br (br (okG h) (Nat.ble n 9223372036854775808) false) (strK (decN u) h n k) (fb [.int 3 u] h n k)) (fb [.int 3 u] h n k)=_
 rw [y_bltT hu,hG,y_bleT hn]
 show strK (decN u) h n k=_
 have:∃ a x,decN u=.str a x:=by
  unfold decN
  rw [zay,zay,zay]
  split
  ·exact ⟨_,_,rfl⟩
  split
  ·exact ⟨_,_,rfl⟩
  split<;>exact ⟨_,_,rfl⟩
 obtain ⟨a,x,e⟩:=this
 rw [e]
 show (frc x fun x=>k (.str a x) h n)=_
 rw [zam]
structure Ways (ex:Nat→Option I):Prop where
 itoa:∃ fb,ex 130=some (zsx 640 fb)
 no:∀ f,f ∈ [91,401,275,274,402,444,323,403,247,162,252,334,335,336,221,311,382,384,300]→ex f=none
section
variable {ex:Nat→Option I} {d:Nat} {h:H} {n:Nat} {k:K}
theorem wrap_nil (w:Ways ex) {a b:AV}:(lv (cxT ex) (d + 1)).call 91 [a,b,.nili] h n k=k .nili h n:=by
 rw [c91 (w.no 91 (by decide))]
 simp [runF,hf91,lenL]
theorem told291 (w:Ways ex):(lv (cxT ex) (d + 2)).call 247 [.nili] h n k=k .nili h n:=by
 rw [c247 (w.no 247 (by decide))]
 simp [runF,hf247,lenL,wrap_nil w]
theorem told299 (w:Ways ex) {u:Nat} (hu:u < 640) (hG:okG h=true) (hn:n≤9223372036854775808):(lv (cxT ex) (d + 2)).call 403 [.int 3 u,.nili] h n k=k .nili h n:=by
 rw [c403 (w.no 403 (by decide))]
 obtain ⟨fb,hi⟩:=w.itoa
 simp [runF,hf403,lenL,call_way hi,iItoa_run hu hG hn,wrap_nil w]
theorem there294 (w:Ways ex) {c m es i B:Nat} {t:T AV} (hc:getO h c=some (.cells m es t)) (hm:1 < m) (c1:zag t 1=.int 3 B) (hB:B < 9223372036854775808) (hi:i < B):
  (lv (cxT ex) (d + 1)).call 401 [.ptr c 0,.int 3 i] h n k=k (.bool true) h n:=by
 rw [c401 (w.no 401 (by decide))]
 simp (discharger:=omega) [runF,hf401,lenL,hc,c1]
theorem may348 (w:Ways ex) {db m es i s f len cap:Nat} {t:T AV} {xx:Bool} (hd:getO h db=some (.cells m es t)) (hm:3 < m) (h0:zag t 0=.sl s f len cap xx) (h3:zag t 3=.bool false) (hi:i < len) (hl:len < 9223372036854775808):
  (lv (cxT ex) (d + 1)).call 323 [.ptr db 0,.int 3 i,.bool true] h n k=k .nili h n:=by
 rw [c323 (w.no 323 (by decide))]
 simp (discharger:=omega) [runF,hf323,lenL,hd,h0,h3]
def Rd (ex:Nat→Option I) (d f:Nat) (args:List AV) (h:H) (n m x:Nat) (er:List AV→AV):Prop:=
 ∃ h2,(∀ k:K,(lv (cxT ex) d).call f args h n k=k (er [.sl m 0 128 128 true]) h2 (m + 1))∧getO h2 m=some (.bytes 128 x)∧∀ b,b < n→getO h2 b=getO h b
def twoE (l:List AV):AV:=.tup (.cons (l.headD .undef) (.cons .nili .nl))
theorem read375 (w:Ways ex) {db m es i s f len cap ms ess:Nat} {t ts:T AV} {xx:Bool} {x:Nat} (hn:10≤n) (hn2:n < 9223372036854775808) (hdn:db < n) (hsn:s < n)
  (hd:getO h db=some (.cells m es t)) (hm:3 < m) (h0:zag t 0=.sl s f len cap xx) (h3:zag t 3=.bool false) (hi:i < len) (hl:len < 9223372036854775808)
  (hs:getO h s=some (.cells ms ess ts)) (hms:f + i < ms)
  (hx:(zag ts (f + i)=.nils∧x=0)∨∃ b o c e mb xb,zag ts (f + i)=.sl b o 128 c e∧b < n∧getO h b=some (.bytes mb xb)∧o + 128≤mb∧x=cutB mb xb o (o + 128)):
  Rd ex (d + 2) 444 [.ptr db 0,.int 3 i] h n n x twoE:=by
 unfold Rd twoE
 rcases hx with ⟨hx,rfl⟩ | ⟨b,o,c,e,mb,xb,hx,hbn,hb,hob,rfl⟩
 ·refine ⟨setO h n (.bytes 128 0),fun k=>?_,?_,?_⟩
  ·rw [c444 (w.no 444 (by decide))]
   simp (discharger:=omega) [runF,hf444,lenL,may348 w hd hm h0 h3 hi hl,hd,h0,hs,hx]
  ·simp (discharger:=omega)
  ·intro b hb
   simp (discharger:=omega)
 ·refine ⟨setO (setO h n (.bytes 128 0)) n (.bytes 128 (cutB mb xb o (o + 128))),fun k=>?_,?_,?_⟩
  ·rw [c444 (w.no 444 (by decide))]
   have hcp:=fun (h':H) (k:K) (e1:getO h' b=some (.bytes mb xb)) (e2:getO h' n=some (.bytes 128 0))=>z0t (h:=h') (n:=n + 1) (k:=k) (b:=n) (c:=128) (ex:=true) (c':=c) (ex':=e) e1 e2 hob hn
   simp (discharger:=omega) [runF,hf444,lenL,may348 w hd hm h0 h3 hi hl,hd,h0,hs,hx]
   rw [hcp _ _ (by simp (discharger:=omega) [hb]) (by simp (discharger:=omega))]
   simp (discharger:=omega)
  ·simp (discharger:=omega)
  ·intro b hb
   simp (discharger:=omega)
end
end
end
end Go.Proofs
namespace Go.Proofs
noncomputable section
noncomputable section
open Go Go.VE
set_option maxRecDepth 100000
set_option linter.all false
section
variable {ex:Nat→Option I} {d:Nat} {h:H} {n:Nat} {k:K}
theorem clip296 (w:Ways ex) {b x:Nat} (hb:getO h b=some (.bytes 128 x)):(lv (cxT ex) (d + 1)).call 274 [.sl b 0 128 128 false] h n k=k (.sl b 0 128 128 true) h n:=by
 rw [c274 (w.no 274 (by decide))]
 simp (discharger:=omega) [runF,hf274,lenL,z0r hb]
theorem clone297 (w:Ways ex) {b o c mb xb:Nat} {e:Bool} (hbn:b < n) (hb:getO h b=some (.bytes mb xb)) (hob:o + 128≤mb) (hn:10≤n) (hn2:n < 9223372036854775807):
  (lv (cxT ex) (d + 1)).call 275 [.sl b o 128 c e] h n k=k (.sl (n + 1) 0 128 128 false) (setO (setO h n (.bytes 0 0)) (n + 1) (.bytes 128 (cutB mb xb o (o + 128)))) (n + 2):=by
 rw [c275 (w.no 275 (by decide))]
 have hap:=fun (h':H) (k:K) (e1:getO h' b=some (.bytes mb xb))=>y_appN (a:=n) (h:=h') (n:=n + 1) (k:=k) (c:=c) (ex:=e) e1 hob (by omega)
 simp (discharger:=omega) [runF,hf275,lenL,hb]
 rw [hap _ _ (by simp (discharger:=omega) [hb])]
 simp (discharger:=omega)
theorem read298 (w:Ways ex) {j db mj ej m x i:Nat} {tj:T AV} (hj:getO h j=some (.cells mj ej tj)) (hm:0 < mj) (h0:zag tj 0=.ptr db 0) (hr:Rd ex (d + 2) 444 [.ptr db 0,.int 3 i] h n m x twoE):
  Rd ex (d + 3) 402 [.ptr j 0,.int 3 i] h n m x twoE:=by
 obtain ⟨h2,e,g1,g2⟩:=hr
 refine ⟨h2,fun k=>?_,g1,g2⟩
 rw [c402 (w.no 402 (by decide))]
 simp (discharger:=omega) [runF,hf402,lenL,hj,h0,e,twoE,told291 w]
theorem read195 (w:Ways ex) {c j mb mc ec B i x m:Nat} {tc:T AV} {l:List (AV × AV)} (hG:okG h=true) (hmn:m≤n + 5) (hn:10≤n) (hn2:n < 9223372036854775800)
  (hc:getO h c=some (.cells mc ec tc)) (hm:2 < mc) (c0:zag tc 0=.ptr j 0) (c1:zag tc 1=.int 3 B) (c2:zag tc 2=.map mb) (hB:B < 9223372036854775808) (hi:i < B) (hi2:i < 640) (hmb:getO h mb=some (.map l)):
  (zg5 (.int 3 i) l=some none→Rd ex (d + 3) 402 [.ptr j 0,.int 3 i] h n m x twoE→ex 333=none→Rd ex (d + 4) 333 [.ptr c 0,.int 3 i] h n m x twoE)∧
  (∀ b o cc e m' x',zg5 (.int 3 i) l=some (some (.sl b o 128 cc e))→b < n→getO h b=some (.bytes m' x')→o + 128≤m'→ex 333=none→Rd ex (d + 4) 333 [.ptr c 0,.int 3 i] h n (n + 1) (cutB m' x' o (o + 128)) twoE):=by
 refine ⟨fun hf hr he=>?_,fun b o cc e m' x' hf hbn hb hob he=>?_⟩
 ·obtain ⟨h2,e,g1,g2⟩:=hr
  have hG2:okG h2=true:=by rw [okG_mono (g2 2 (by omega))]; exact hG
  refine ⟨h2,fun k=>?_,g1,g2⟩
  rw [c333 he]
  simp (discharger:=omega) [runF,hf333,lenL,there294 w hc (by omega) c1 hB hi,hc,c0,c1,c2,hmb,hf,e,twoE,told299 w hi2 hG2 (show m + 1≤9223372036854775808 by omega)]
 ·refine ⟨setO (setO h n (.bytes 0 0)) (n + 1) (.bytes 128 (cutB m' x' o (o + 128))),fun k=>?_,?_,?_⟩
  ·rw [c333 he]
   have hcl:=fun (h':H) (k:K) (e1:getO h' (n + 1)=some (.bytes 128 (cutB m' x' o (o + 128))))=>clip296 (ex:=ex) (d:=d + 2) (n:=n + 2) (k:=k) w e1
   simp (discharger:=omega) [runF,hf333,lenL,there294 w hc (by omega) c1 hB hi,hc,c0,c1,c2,hmb,hf,clone297 w hbn hb hob hn (by omega),twoE]
   rw [hcl _ _ (by simp (discharger:=omega))]
   simp (discharger:=omega)
  ·simp (discharger:=omega)
  ·intro b hb
   simp (discharger:=omega)
end
end
end
end Go.Proofs
namespace Go.Proofs
noncomputable section
noncomputable section
open Go Go.VE
set_option maxRecDepth 100000
set_option linter.all false
section
open Lo Lo.Pr Sl
def lb336_0 [Pr]:X:=(sq (fun c e=>lt (g9 e) (g8 e) fun x1=>let e1:=p10 x1 e;nr e1)
(Q (cd g10 zaa
(zae 0))
(Q (Bk 1 (sq (fun c e=>let e1:=p7 (g9 e) e;nr e1)
(on fun c e=>mu (.int 3 2) (g7 e) fun x1=>z0 c e (zap 1 (sC (g1 e)) (some (sC x1)) none none) fun x2=>cl c 334 [x2] fun x3=>z0 c e (zah 1 1 (.cons (.int 3 0) .nl) [(0,(sC x3))]) fun x4=>z0 c e (zaq 1 8 (sC (g6 e)) (sC x4)) fun x5=>let e1:=p6 x5 e;nr e1)))
(on fun c e=>ad (g9 e) (.int 3 1) fun x1=>let e1:=p9 x1 e;nr e1))))
def kf336 [Pr]:LF:=LF.mk [.tmp 5] (sq (fun c e=>let e1:=p5 .nils e;nr e1)
(sq (fun c e=>let e1:=p6 .nils e;nr e1)
(Q (sq (fun c e=>let e1:=p8 (g2 e) e;let e2:=p9 (.int 3 0) e1;nr e2)
(Bk 0 (Lp lb336_0)))
(sq (fun c e=>let e1:=p5 (g6 e) e;nr e1) R))))
theorem kf336_eq:@hf336 Lo.slow=@kf336 Lo.slow:=rfl
def lb162_0 [Pr]:X:=(Q (sq (fun c e=>fd 3 (g1 e) fun x3=>le (g6 e) x3 fun x4=>let e1:=p14 x4 e;nr e1)
(cd g14 zaa
(zae 0)))
(Q (Bk 1 (sq (fun c e=>cl c 252 [(g1 e),(g6 e)] fun x1=>ex 0 x1 fun x2=>ex 1 x1 fun x3=>nw (.cells 4 0 (.node (.node (.node .nil (some (.int 3 0)) .nil) (some (.int 3 0)) .nil) (some (.int 3 0)) (.node .nil (some .nils) .nil))) fun x4=>let e1:=p7 x4 e;so 4 x4 x2 fun x5=>let e2:=p8 x3 e1;nr e2)
(Q (sq (fun c e=>nn (g8 e) fun x1=>let e1:=p24 x1 e;nr e1)
(cd g24 (sq (fun c e=>cl c 91 [(.str 5 452824360037),(.str 0 0),(g8 e)] fun x1=>let e1:=p3 (.int 3 0) e;let e2:=p4 x1 e1;nr e2) R) zaa))
(sq (fun c e=>fa 0 (g7 e) fun x1=>ld x1 fun x2=>ei 3 x2 (.int 3 0) fun x3=>let e1:=p29 x3 e;nr e1)
(cd g29 (on fun c e=>ad (g5 e) (.int 3 1) fun x1=>let e1:=p5 x1 e;nr e1) zaa)))))
(on fun c e=>ad (g6 e) (.int 3 1) fun x1=>let e1:=p6 x1 e;nr e1)))
def kf162 [Pr]:LF:=LF.mk [.tmp 3,.tmp 4] (sq (fun c e=>let e1:=p3 (.int 3 0) e;let e2:=p4 .nili e1;nr e2)
(sq (fun c e=>let e1:=p5 (.int 3 0) e;nr e1)
(Q (sq (fun c e=>let e1:=p6 (.int 3 1) e;nr e1)
(Bk 0 (Lp lb162_0)))
(sq (fun c e=>let e1:=p3 (g5 e) e;let e2:=p4 .nili e1;nr e2) R))))
theorem kf162_eq:@hf162 Lo.slow=@kf162 Lo.slow:=rfl
def lb311_0 [Pr]:X:=(sq (fun c e=>lt (g22 e) (g21 e) fun x1=>let e1:=p23 x1 e;nr e1)
(Q (cd g23 zaa
(zae 0))
(Q (Bk 1 (sq (fun c e=>let e1:=p8 (g22 e) e;nr e1)
(sq (fun c e=>cl c 384 [(g5 e),(g8 e)] fun x1=>let e1:=p27 x1 e;nr e1)
(cd g27 (on fun c e=>fd 2 (g1 e) fun x3=>ad x3 (g8 e) fun x4=>z0 c e (zah 1 1 (.cons (.int 3 0) .nl) [(0,(sC x4))]) fun x5=>z0 c e (zaq 1 8 (sC (g7 e)) (sC x5)) fun x6=>let e1:=p7 x6 e;nr e1) zaa))))
(on fun c e=>ad (g22 e) (.int 3 1) fun x1=>let e1:=p22 x1 e;nr e1))))
def kf311 [Pr]:LF:=LF.mk [.tmp 3,.tmp 4] (sq (fun c e=>let e1:=p3 .nils e;let e2:=p4 .nili e1;nr e2)
(sq (fun c e=>cl c 382 [(g1 e)] fun x1=>ex 0 x1 fun x2=>ex 1 x1 fun x3=>let e1:=p5 x2 e;let e2:=p6 x3 e1;nr e2)
(Q (sq (fun c e=>nn (g6 e) fun x1=>let e1:=p15 x1 e;nr e1)
(cd g15 (sq (fun c e=>cl c 383 [(.str 0 0),(g6 e)] fun x1=>let e1:=p3 .nils e;let e2:=p4 x1 e1;nr e2) R) zaa))
(sq (fun c e=>let e1:=p7 .nils e;nr e1)
(Q (sq (fun c e=>fd 3 (g1 e) fun x3=>let e1:=p21 x3 e;let e2:=p22 (.int 3 0) e1;nr e2)
(Bk 0 (Lp lb311_0)))
(sq (fun c e=>cl c 110 [(g7 e)] fun x1=>let e1:=p3 x1 e;let e2:=p4 .nili e1;nr e2) R))))))
theorem kf311_eq:@hf311 Lo.slow=@kf311 Lo.slow:=rfl
def lb300_0 [Pr]:X:=(sq (fun c e=>lt (g17 e) (g16 e) fun x1=>let e1:=p18 x1 e;nr e1)
(Q (cd g18 zaa
(zae 2))
(Q (Bk 3 (sq (fun c e=>ia 1 (g15 e) (g17 e) fun x1=>ld x1 fun x2=>let e1:=p8 x2 e;nr e1)
(on fun c e=>tI 7 M (g8 e) fun x1=>z0 c e (oXor 7 (sC (g4 e)) (sC x1)) fun x2=>z0 c e (oMul 7 M (sC x2) (sC (.int 7 1099511628211))) fun x3=>let e1:=p4 x3 e;nr e1)))
(on fun c e=>ad (g17 e) (.int 3 1) fun x1=>let e1:=p17 x1 e;nr e1))))
def lb300_1 [Pr]:X:=(sq (fun c e=>lt (g11 e) (g10 e) fun x1=>let e1:=p12 x1 e;nr e1)
(Q (cd g12 zaa
(zae 0))
(Q (Bk 1 (sq (fun c e=>ia 1 (g9 e) (g11 e) fun x1=>ld x1 fun x2=>let e1:=p6 x2 e;nr e1)
(sq (fun c e=>let x1:=g6 e;let e1:=p15 x1 e;lz x1 fun x2=>let e2:=p16 x2 e1;let e3:=p17 (.int 3 0) e2;nr e3)
(Bk 2 (Lp lb300_0)))))
(on fun c e=>ad (g11 e) (.int 3 1) fun x1=>let e1:=p11 x1 e;nr e1))))
def kf300 [Pr]:LF:=LF.mk [.tmp 3] (sq (fun c e=>let e1:=p3 (.int 7 0) e;nr e1)
(sq (fun c e=>let e1:=p4 (.int 7 14695981039346656037) e;nr e1)
(Q (sq (fun c e=>let x1:=g1 e;let e1:=p9 x1 e;lz x1 fun x2=>let e2:=p10 x2 e1;let e3:=p11 (.int 3 0) e2;nr e3)
(Bk 0 (Lp lb300_1)))
(sq (fun c e=>let e1:=p3 (g4 e) e;nr e1) R))))
theorem kf300_eq:@hf300 Lo.slow=@kf300 Lo.slow:=rfl
def lb382_0 [Pr]:X:=(Q (sq (fun c e=>mu (g6 e) (.int 3 1024) fun x1=>fd 3 (g1 e) fun x4=>lt x1 x4 fun x5=>let e1:=p15 x5 e;nr e1)
(cd g15 zaa
(zae 0)))
(Q (Bk 1 (Q (on fun c e=>fd 0 (g1 e) fun x3=>fd 1 (g1 e) fun x6=>ad x6 (g6 e) fun x7=>dB (cl c 333 [x3,x7]) fun x8=>ex 0 x8 fun x9=>ex 1 x8 fun x10=>let f1:=p7 x9 e;let f2:=p8 x10 f1;nr f2)
(Q (sq (fun c e=>nn (g8 e) fun x1=>let e1:=p33 x1 e;nr e1)
(cd g33 (sq (fun c e=>let e1:=p3 .nils e;let e2:=p4 (g8 e) e1;nr e2) R) zaa))
(on fun c e=>z0 c e (zaq 1 1 (sC (g5 e)) (sC (g7 e))) fun x1=>let e1:=p5 x1 e;nr e1))))
(on fun c e=>ad (g6 e) (.int 3 1) fun x1=>let e1:=p6 x1 e;nr e1)))
def kf382 [Pr]:LF:=LF.mk [.tmp 3,.tmp 4] (sq (fun c e=>let e1:=p3 .nils e;let e2:=p4 .nili e1;nr e2)
(sq (fun c e=>let e1:=p5 .nils e;nr e1)
(Q (sq (fun c e=>let e1:=p6 (.int 3 0) e;nr e1)
(Bk 0 (Lp lb382_0)))
(sq (fun c e=>let e1:=p3 (g5 e) e;let e2:=p4 .nili e1;nr e2) R))))
theorem kf382_eq:@hf382 Lo.slow=@kf382 Lo.slow:=rfl
end
theorem zcs (m x i:Nat):zar m x i < 256:=Nat.mod_lt _ (by omega)
theorem lor_num {a b:Nat} (ha:a < 256) (hb:b < 256):a ||| (b * 256 % 18446744073709551616)=a + b * 256:=by
 rw [Nat.mod_eq_of_lt (by omega),show b * 256=2 ^ 8 * b by omega]
 rw [Nat.or_comm,← Nat.two_pow_add_eq_or_of_lt (i:=8) (by omega)]
 omega
theorem num2_lt (m x f:Nat):num2 m x f < 65536:=by
 have h1:=zcs m x f
 have h2:=zcs m x (f + 1)
 unfold num2; omega
section
variable {ex:Nat→Option I} {d:Nat} {h:H} {n:Nat} {k:K}
theorem number196 (w:Ways ex) {b f l c m x:Nat} {e:Bool} (hb:getO h b=some (.bytes m x)) (hl:2≤l) (hm:f + 1 < m):(lv (cxT ex) (d + 1)).call 334 [.sl b f l c e] h n k=k (.int 3 (num2 m x f)) h n:=by
 rw [c334 (w.no 334 (by decide))]
 have h1:=zcs m x f
 have h2:=zcs m x (f + 1)
 have e1:zar m x f % 18446744073709551616=zar m x f:=Nat.mod_eq_of_lt (by omega)
 have e2:zar m x (f + 1) % 18446744073709551616=zar m x (f + 1):=Nat.mod_eq_of_lt (by omega)
 have e3:=lor_num h1 h2
 simp (discharger:=omega) [runF,hf334,lenL,hb,Lo.M,e1,e2]
 rw [e3]; rfl
theorem data197 (w:Ways ex) {u:Nat} (hu:u < 100000):(lv (cxT ex) (d + 1)).call 335 [.int 3 u] h n k=k (.int 3 ((u + 127) / 128)) h n:=by
 rw [c335 (w.no 335 (by decide))]
 simp (discharger:=omega) [runF,hf335,lenL]
theorem list198 (w:Ways ex) {b f l m x:Nat} (hb:getO h b=some (.bytes 128 x)) (hfl:f + l≤128) (hl:l≤128) (hm:2 * m≤l) (hbn:b < n) (hn:10≤n) (hn2:n < 9000000000000000000):
  ∃ v h2 n2,(∀ k:K,(lv (cxT ex) (d + 3)).call 336 [.sl b f l l true,.int 3 m] h n k=k v h2 n2)∧okC v=true∧n≤n2∧n2≤n + 200∧∀ q,q < n→getO h2 q=getO h q:=by
 have key:=zgp (b:=@lb336_0 Lo.slow (lv (cxT ex) (d + 2))) (id:=0) (N:=m)
  (fun i e h' n'=>eAt 1 e=.sl b f l l true∧eAt 8 e=.int 3 m∧eAt 9 e=.int 3 i∧n + 2 * i=n'∧(∀ q,q < n→getO h' q=getO h q)∧
   ((i=0∧eAt 6 e=.nils)∨∃ b' t,eAt 6 e=.sl b' 0 i i false∧0 < i∧n≤b'∧b' < n'∧getO h' b'=some (.cells i 1 t)))
  (fun e h' n'=>okC (eAt 6 e)=true∧n≤n'∧n'≤n + 200∧∀ q,q < n→getO h' q=getO h q)
  (fun i e h' n' hi hI=>by
   obtain ⟨g1,g8,g9,gn,gf,g6⟩:=hI
   have hb':getO h' b=some (.bytes 128 x):=by rw [gf b hbn]; exact hb
   have htb:∀ v,getO (setO h' n' v) n'=some v:=fun v=>y_same (by omega)
   obtain ⟨h2,t2,a1,a2,a3⟩:=zr1 (h:=setO h' n' (.cells 1 1 (oneT (.int 3 (num2 128 x (f + 2 * i)))))) (n:=n' + 1) (o:=eAt 6 e) (i:=i) (tb:=n')
    (by
     rcases g6 with ⟨e1,e2⟩ | ⟨b',t,e1,e2,e3,e4,e5⟩
     ·exact .inl ⟨e1,e2⟩
     ·exact .inr ⟨b',t,e1,e2,by omega,by omega,by omega,by rw [y_neO (by omega) (by omega)]; exact e5⟩) (htb _) (by omega) (by omega)
   have e0:(if l=2 * i then f else f + 2 * i * 1)=f + 2 * i:=by split<;>omega
   have hnum:=fun (k:K)=>number196 (ex:=ex) (d:=d + 1) (h:=h') (n:=n') (k:=k) w (b:=b) (f:=f + 2 * i) (l:=l - 2 * i) (c:=l - 2 * i) (e:=true) hb' (by omega) (by omega)
   refine ⟨ePut (.int 3 (i + 1)) 9 (ePut (.sl (n' + 1) 0 (i + 1) (i + 1) false) 6 (ePut (.int 3 i) 7 (ePut (.bool true) 10 e))),h2,n' + 1 + 1,?_,?_⟩
   ·simp (discharger:=omega) [lb336_0,g1,g8,g9,hnum,a1]
   ·refine ⟨by simp [g1],by simp [g8],by simp,by omega,fun q hq=>?_,.inr ⟨n' + 1,t2,by simp,by omega,by omega,by omega,a2⟩⟩
    rw [a3 q (by omega) (fun b' hb'=>?_),y_neO (by omega) (by omega),gf q hq]
    rcases g6 with ⟨_,e2⟩ | ⟨b'',t,e1,_,e3,_,_⟩
    ·rw [e2] at hb'; cases hb'
    ·rw [e1] at hb'; cases hb'; omega)
  (fun e h' n' hI=>by
   obtain ⟨g1,g8,g9,gn,gf,g6⟩:=hI
   refine ⟨ePut (.bool false) 10 e,?_,?_⟩
   ·simp (discharger:=omega) [lb336_0,g1,g8,g9]
   ·refine ⟨?_,by omega,by omega,gf⟩
    rcases g6 with ⟨_,e2⟩ | ⟨b',t,e1,_⟩
    ·simp [e2,okC]
    ·simp [e1,okC])
 obtain ⟨e',h',n',k1,k2,k3,k4,k5⟩:=key 1000000 0 (ePut (.int 3 0) 9 (ePut (.int 3 m) 8 (ePut .nils 6 (ePut .nils 5 (ePut (.int 3 m) 2 (ePut (.sl b f l l true) 1 Ev.nil)))))) h n (by omega) (by omega) ⟨by simp,by simp,by simp,by omega,fun _ _=>rfl,.inl ⟨rfl,by simp⟩⟩
 refine ⟨eAt 6 e',h',n',fun k=>?_,k2,k3,k4,k5⟩
 rw [c336 (w.no 336 (by decide)),kf336_eq]
 simp (discharger:=omega) [runF,kf336,lenL,k1]
end
end
end
end Go.Proofs
namespace Go.Proofs
noncomputable section
noncomputable section
open Go Go.VE
set_option maxRecDepth 100000
set_option linter.all false
theorem bytes128_inv {o:Option AO} {f x:Nat} (e:zg1 o f=some x):∃ m y,o=some (.bytes m y)∧f + 128≤m∧x=cutB m y f (f + 128):=by
 unfold zg1 at e
 split at e
 ·rename_i m y
  obtain ⟨h1,h2⟩:=zbo e
  rw [Nat.ble_eq] at h1
  exact ⟨m,y,rfl,h1,(Option.some.inj h2).symm⟩
 ·cases e
theorem slV_inv {h:H} {n:Nat} {v:AV} {x:Nat} (e:slV h n v=some x):∃ b o c ex m y,v=.sl b o 128 c ex∧b < n∧getO h b=some (.bytes m y)∧o + 128≤m∧x=cutB m y o (o + 128):=by
 unfold slV at e
 split at e
 ·rename_i b f l c ex
  obtain ⟨h1,e1⟩:=zbo e
  obtain ⟨h2,e2⟩:=zbo e1
  have h1':=zak h1
  rw [Nat.blt_eq] at h2
  obtain ⟨m,y,g1,g2,g3⟩:=bytes128_inv e2
  rw [h1']
  exact ⟨b,f,c,ex,m,y,rfl,h2,g1,g2,g3⟩
 ·cases e
theorem blkV_inv {h:H} {n:Nat} {v:AV} {x:Nat} (e:blkV h n v=some x):(v=.nils∧x=0)∨∃ b o c ex m y,v=.sl b o 128 c ex∧b < n∧getO h b=some (.bytes m y)∧o + 128≤m∧x=cutB m y o (o + 128):=by
 unfold blkV at e
 split at e
 ·exact .inl ⟨rfl,(Option.some.inj e).symm⟩
 ·exact .inr (slV_inv e)
structure DF (h:H) (n db no x:Nat):Prop where
 out:∃ m es t s f len cap xx ms ess ts,getO h db=some (.cells m es t)∧3 < m∧zag t 0=.sl s f len cap xx∧zag t 3=.bool false∧no < len∧len < 9223372036854775808∧db < n∧s < n∧
  getO h s=some (.cells ms ess ts)∧f + no < ms∧((zag ts (f + no)=.nils∧x=0)∨∃ b o c e mb xb,zag ts (f + no)=.sl b o 128 c e∧b < n∧getO h b=some (.bytes mb xb)∧o + 128≤mb∧x=cutB mb xb o (o + 128))
theorem dRd_inv {h:H} {n db no x:Nat} (e:dRd h n db no=some x):DF h n db no x:=by
 unfold dRd at e
 split at e
 ·rename_i s f l c xx dead e1 e2
  have hdead:dead=false:=by cases dead<;>first | rfl | cases e
  subst hdead
  obtain ⟨h1,e⟩:=zbo (show br (Nat.blt no l) _ none=some x from e)
  obtain ⟨h2,e⟩:=zbo e
  obtain ⟨h3,e⟩:=zbo e
  obtain ⟨h4,e⟩:=zbo e
  unfold bd at h2
  rw [Nat.blt_eq] at h1 h2 h3 h4
  obtain ⟨m,es,t,g1,g2,g3⟩:=zct e1 (by simp)
  obtain ⟨m',es',t',g4,g5,g6⟩:=zct e2 (by simp)
  rw [g1] at g4; cases g4
  have hs:cel h s (f + no)≠.undef:=fun h0=>by rw [h0] at e; cases e
  obtain ⟨ms,ess,ts,k1,k2,k3⟩:=zct rfl hs
  have:=blkV_inv e
  rw [← k3] at this
  exact ⟨m,es,t,s,f,l,c,xx,ms,ess,ts,g1,g5,g3,g6,h1,h2,h3,h4,k1,k2,this⟩
 ·cases e
structure CF (h:H) (n c no:Nat) (p:Bool × Nat):Prop where
 out:∃ mc ec tc j B mb l,getO h c=some (.cells mc ec tc)∧2 < mc∧zag tc 0=.ptr j 0∧zag tc 1=.int 3 B∧zag tc 2=.map mb∧B < 9223372036854775808∧no < B∧no < 640∧c < n∧j < n∧mb < n∧getO h mb=some (.map l)∧
  ((p.1=false∧zg5 (.int 3 no) l=some none∧∃ db mj ej tj,getO h j=some (.cells mj ej tj)∧0 < mj∧zag tj 0=.ptr db 0∧DF h n db no p.2)∨ (p.1 = true ∧ ∃ b o cc e m' x', zg5 (.int 3 no) l = some (some (.sl b o 128 cc e)) ∧ b < n ∧ getO h b = some (.bytes m' x') ∧ o + 128 ≤ m' ∧ p.2 = cutB m' x' o (o + 128)))
theorem cRd_inv {h:H} {n c no:Nat} {p:Bool × Nat} (e:cRd h n c no=some p):CF h n c no p:=by
 unfold cRd at e
 split at e
 ·rename_i j o kd B mb e0 e1 e2
  obtain ⟨h0,f0⟩:=zbo e
  obtain ⟨h1,f1⟩:=zbo f0
  obtain ⟨h2,f2⟩:=zbo f1
  obtain ⟨h3,f3⟩:=zbo f2
  obtain ⟨h4,f4⟩:=zbo f3
  obtain ⟨h5,f5⟩:=zbo f4
  obtain ⟨h6,f6⟩:=zbo f5
  obtain ⟨h7,f7⟩:=zbo f6
  clear e f0 f1 f2 f3 f4 f5 f6
  have:=zak h0; subst this
  have:=zak h1; subst this
  have e:=f7
  clear f7
  unfold bd at h2
  rw [Nat.blt_eq] at h2 h3 h4 h5 h6 h7
  obtain ⟨m,es,t,g1,g2,g3⟩:=zct e0 (by simp)
  obtain ⟨m',es',t',g4,g5,g6⟩:=zct e1 (by simp)
  rw [g1] at g4; cases g4
  obtain ⟨m',es',t',g4,g7,g8⟩:=zct e2 (by simp)
  rw [g1] at g4; cases g4
  have hl:∃ l,getO h mb=some (.map l):=by
   unfold zvl at e
   split at e
   ·exact ⟨_,by assumption⟩
   ·cases e
  obtain ⟨l,hl⟩:=hl
  have hm:zvl no (getO h mb)=zg5 (.int 3 no) l:=by rw [hl]; rfl
  rw [hm] at e
  refine ⟨m,es,t,j,B,mb,l,g1,g7,g3,g6,g8,h2,h3,h4,h5,h6,h7,hl,?_⟩
  unfold cRd2 at e
  split at e
  ·rename_i hf
   left
   unfold tagO at e
   split at e
   ·rename_i x hj
    cases e
    unfold jRd at hj
    split at hj
    ·rename_i d o' hc
     obtain ⟨k0,hj⟩:=zbo hj
     have:=zak k0; subst this
     obtain ⟨mj,ej,tj,q1,q2,q3⟩:=zct hc (by simp)
     exact ⟨rfl,hf,d,mj,ej,tj,q1,q2,q3,dRd_inv hj⟩
    ·cases hj
   ·cases e
  ·rename_i v hf
   right
   unfold tagO at e
   split at e
   ·rename_i x hj
    cases e
    obtain ⟨b,o,cc,ex,m',y,q1,q2,q3,q4,q5⟩:=slV_inv hj
    subst q1
    exact ⟨rfl,b,o,cc,ex,m',y,hf,q2,q3,q4,q5⟩
   ·cases e
  ·cases e
 ·cases e
section
variable {ex:Nat→Option I} {d:Nat} {h:H} {n:Nat} {k:K}
theorem cread_run (w:Ways ex) (he:ex 333=none) {c no:Nat} {p:Bool × Nat} (e:cRd h n c no=some p) (hG:okG h=true) (hn:10≤n) (hn2:n < 9223372036854775800):
  Rd ex (d + 4) 333 [.ptr c 0,.int 3 no] h n (if p.1=true then n + 1 else n) p.2 twoE:=by
 obtain ⟨mc,ec,tc,j,B,mb,l,g1,g2,g3,g4,g5,g6,g7,g8,g9,g10,g11,g12,hcase⟩:=(cRd_inv e).out
 rcases hcase with ⟨q0,q1,db,mj,ej,tj,q2,q3,q4,q5⟩ | ⟨q0,b,o,cc,e',m',x',q1,q2,q3,q4,q5⟩
 ·rw [if_neg (by rw [q0]; decide)]
  obtain ⟨m,es,t,s,f,len,cap,xx,ms,ess,ts,r1,r2,r3,r4,r5,r6,r7,r8,r9,r10,r11⟩:=q5.out
  have h375:=read375 (d:=d) w hn (by omega) r7 r8 r1 r2 r3 r4 r5 r6 r9 r10 r11
  exact (read195 (d:=d) (m:=n) (x:=p.2) w hG (by omega) hn hn2 g1 g2 g3 g4 g5 g6 g7 g8 g12).1 q1 (read298 w q2 q3 q4 h375) he
 ·rw [if_pos q0,q5]
  exact (read195 (d:=d) (m:=n) (x:=p.2) w hG (by omega) hn hn2 g1 g2 g3 g4 g5 g6 g7 g8 g12).2 b o cc e' m' x' q1 q2 q3 q4 he
end
end
end
end Go.Proofs
namespace Go.Proofs
noncomputable section
noncomputable section
open Go Go.VE
set_option maxRecDepth 100000
set_option linter.all false
theorem okN_inv {n:Nat} (h:okN n=true):10≤n∧n < 1000000000000000000:=by
 unfold okN at h
 obtain ⟨h1,h2⟩:=brb h
 rw [Nat.ble_eq] at h1
 rw [Nat.blt_eq] at h2
 exact ⟨h1,h2⟩
theorem freshAt_eq {x m:Nat} {h:H} {k:K}:zfj x m h k=k (.tup (.cons (.sl m 0 128 128 true) (.cons .nili .nl))) (setO h m (.bytes 128 x)) (m + 1):=by
 unfold zfj
 rw [zam,zam,zam]
theorem iCRead_law {ex:Nat→Option I} (hex:ExOk ex) (w:Ways ex) (he:ex 333=none) (args:List AV) (h:H) (n:Nat) (k:K) (rr:RR) (hr:zga ((lv (cxT ex) 500).call 333) args h n k=rr) (hne:rr≠.fail):CallLaw Tryz.prog 333 args h n k rr:=by
 have fb:(lv (cxT ex) 500).call 333 args h n k=rr→CallLaw Tryz.prog 333 args h n k rr:=fun e=>run_ok hex 500 333 args h n k rr e hne
 unfold zga at hr
 split at hr
 ·rename_i c o kd no
  rcases zdf hr with ⟨h1,hr1⟩ | hr1
  ·rcases zdf hr1 with ⟨h2,hr2⟩ | hr2
   ·have:=zak h1; subst this
    have:=zak h2; subst this
    cases hp:cRd h n c no with
    | none=>rw [hp] at hr2; exact fb hr2
    | some p=>
     rw [hp] at hr2
     have hr3:br (br (okG h) (okN n) false) (br p.1 (zfj p.2 (n + 1) h k) (zfj p.2 n h k)) .fail=rr:=hr2
     obtain ⟨h3,hr4⟩:=zab hr3 hne
     obtain ⟨hG,h3⟩:=brb h3
     obtain ⟨hn,hn2⟩:=okN_inv h3
     obtain ⟨h2',e1,e2,e3⟩:=cread_run (d:=496) w he hp hG hn (by omega)
     rw [zay] at hr4
     have e4:=e1 finK
     refine (run_ok hex 500 333 _ h n finK _ e4 (by simp [finK])).oneN (b':=if p.1=true then n + 1 else n) (o':=.bytes 128 p.2) (n':=(if p.1=true then n + 1 else n) + 1) e3 (by split<;>omega) e2 (Nat.le_refl _) (by split<;>omega) ?_
     split at hr4
     ·rename_i hb; rw [if_pos hb]; rw [freshAt_eq] at hr4; exact hr4
     ·rename_i hb; rw [if_neg hb]; rw [freshAt_eq] at hr4; exact hr4
   ·exact fb hr2
  ·exact fb hr1
 ·exact fb hr
end
end
end Go.Proofs
