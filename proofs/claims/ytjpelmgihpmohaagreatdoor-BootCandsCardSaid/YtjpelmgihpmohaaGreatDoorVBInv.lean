/- A part of the proof of BootCands: the program run by the evaluator. No condition. -/
import Derived.Test.YtjpelmgihpmohaaGreatDoorVBInit
import Derived.Test.YtjpelmgihpmohaaGreatDoorVE18
set_option linter.all false
namespace Go.Proofs.Aud
noncomputable section
noncomputable section
open Go Go.VE Go.Proofs.YtjpelmgihpmohaaGreatDoor
set_option maxRecDepth 100000
def l32:List UInt8:=[0,1,28,2,29,14,24,3,30,22,20,15,25,17,4,8,31,27,13,23,21,19,16,7,26,12,18,6,11,5,10,9]
def l64:List UInt8:=[0,1,56,2,57,49,28,3,61,58,42,50,38,29,17,4,62,47,59,36,45,43,51,22,53,39,33,30,24,18,12,5,63,55,48,27,60,41,37,16,46,35,44,21,52,32,23,11,54,26,40,15,34,20,31,10,25,14,19,9,13,8,7,6]
def n10:List Nat:=[1,10,100,1000,10000,100000,1000000,10000000,100000000,1000000000,10000000000,100000000000,1000000000000,10000000000000,100000000000000,1000000000000000,10000000000000000,100000000000000000,1000000000000000000,10000000000000000000]
def zB (l:List UInt8):List Int:=l.map fun b=>(b.toNat:Int)
def zN (l:List Nat):List Int:=l.map fun n:Nat=>(n:Int)
theorem laid_ints {W:World} (hs:W.ShapedOpen Tryz.prog) {ps:List MemPlace} (hL:DataW.LaidVars Tryz.prog W (Rows.bootCandsRow.laid.filter fun x=>x.2.handleName?.isNone) ps) {nm:String} {d:DataW Unit} {g n t e:Nat} {k:IntKind} {zs:List Int}
  (hm:(nm,d) ∈ Rows.bootCandsRow.laid.filter fun x=>x.2.handleName?.isNone) (hg:Tryz.prog.globalNamed nm=some g) (hg9:g < 9) (hb:((w0.heap[g]?).bind Obj.row?).isSome=true) (ht:(Tryz.prog.globals[g]?).map (·.type)=some t)
  (hu:Tryz.prog.underlying t=some (.array n e)) (he:Tryz.prog.underlying e=some (.int k)) (hc:Tryz.prog.cellsOf e=1) (hd:d=.agg (zs.map fun z=>.lit (.int k z))):
  zs.length=n∧∃ cs t',W.heap[g]?=some (.cells cs t' (0,0))∧∀ i (hi:i < zs.length),cs[i]?=some (.int k (zs[i]'hi))∧inK k (zs[i]'hi):=by
 obtain ⟨g',t',cs,fuel,p,h1,h2,h3,h4⟩:=LaidVars.mem hL _ hm
 obtain rfl:=Option.some.inj (hg.symm.trans h1)
 obtain rfl:=Option.some.inj (ht.symm.trans h2)
 subst hd
 obtain ⟨e1,e2⟩:=ints_of_trod hu he hc h4
 refine ⟨e1,?_⟩
 obtain ⟨cs',t'',h5⟩:=var_block hs hg9 hb
 have h6:cs'=cs:=by
  simp only [World.var?,hg,Option.bind_some,h5] at h3
  exact Option.some.inj h3
 subst h6
 exact ⟨cs',t'',h5,fun i hi=>by rw [← Array.getElem?_toList]; exact e2 i hi⟩
theorem block0 {W : World} (hs : W.ShapedOpen Tryz.prog) (h : handlesMet Tryz.prog [("errors.errorType", Rows.laid_errors_errorType)] W) : ∃ t, W.heap[0]? = some (.cells #[.iface 292 (.agg #[.pointer (some ⟨9, 28, none⟩)])] t (0, 0)) := by
 have h1:=cell0 h
 have hg : Tryz.prog.globalNamed "errors.errorType" = some 0 := by kernel_rfl
 obtain ⟨cs',t'',h5⟩:=var_block hs (g:=0) (by decide) (by kernel_rfl)
 simp only [World.var?,hg,Option.bind_some,h5] at h1
 cases h1
 exact ⟨t'',h5⟩
theorem block2 {W:World} (hs:W.ShapedOpen Tryz.prog) {ps:List MemPlace} (hL:DataW.LaidVars Tryz.prog W (Rows.bootCandsRow.laid.filter fun x=>x.2.handleName?.isNone) ps):
  ∃ cs t,W.heap[2]?=some (.cells cs t (0,0))∧∀ i (hi:i < (zN n10).length),cs[i]?=some (.int .u64 ((zN n10)[i]'hi))∧inK .u64 ((zN n10)[i]'hi):=
 (laid_ints hs hL (nm := "internal/strconv.uint64pow10") (d := Rows.laid_internal_strconv_uint64pow10) (n := 20) (e := 78) (t := 481) (by simp [Rows.bootCandsRow, Rows.laid_internal_strconv_uint64pow10, DataW.handleName?]) (by kernel_rfl) (by decide) (by kernel_rfl) (by kernel_rfl) (by kernel_rfl) (by kernel_rfl) (by kernel_rfl) (by kernel_rfl)).2
theorem block3 {W:World} (hs:W.ShapedOpen Tryz.prog) {ps:List MemPlace} (hL:DataW.LaidVars Tryz.prog W (Rows.bootCandsRow.laid.filter fun x=>x.2.handleName?.isNone) ps):
  ∃ cs t,W.heap[7]?=some (.cells cs t (0,0))∧∀ i (hi:i < (zB l32).length),cs[i]?=some (.int .u8 ((zB l32)[i]'hi))∧inK .u8 ((zB l32)[i]'hi):=
 (laid_ints hs hL (nm := "math/bits.deBruijn32tab") (d := Rows.laid_math_bits_deBruijn32tab) (n := 32) (e := 5) (t := 522) (by simp [Rows.bootCandsRow, Rows.laid_math_bits_deBruijn32tab, DataW.handleName?]) (by kernel_rfl) (by decide) (by kernel_rfl) (by kernel_rfl) (by kernel_rfl) (by kernel_rfl) (by kernel_rfl) (by kernel_rfl)).2
theorem block4 {W:World} (hs:W.ShapedOpen Tryz.prog) {ps:List MemPlace} (hL:DataW.LaidVars Tryz.prog W (Rows.bootCandsRow.laid.filter fun x=>x.2.handleName?.isNone) ps):
  ∃ cs t,W.heap[8]?=some (.cells cs t (0,0))∧∀ i (hi:i < (zB l64).length),cs[i]?=some (.int .u8 ((zB l64)[i]'hi))∧inK .u8 ((zB l64)[i]'hi):=
 (laid_ints hs hL (nm := "math/bits.deBruijn64tab") (d := Rows.laid_math_bits_deBruijn64tab) (n := 64) (e := 5) (t := 523) (by simp [Rows.bootCandsRow, Rows.laid_math_bits_deBruijn64tab, DataW.handleName?]) (by kernel_rfl) (by decide) (by kernel_rfl) (by kernel_rfl) (by kernel_rfl) (by kernel_rfl) (by kernel_rfl) (by kernel_rfl)).2
def ρ0 (W:World):Mp:={ f:=fun b=>if b < 10 then some (b,0) else none,g:=fun b=>match W.heap[b]? with | some (.cells c _ _)=>(1,c.size) | _=>(0,0) }
theorem ρ0_at {W:World} {b:Nat} (h:b < 10):ρ0 W b=some (b,0):=if_pos h
theorem relO_tab {W:World} {b n x:Nat} {cs:Array Value} {t:TypeId} {l:List UInt8} (hb:W.heap[b]?=some (.cells cs t (0,0))) (hp:zb6 l n x) (hn:n≤140737488355328) (hc:∀ i (hi:i < (zB l).length),cs[i]?=some (.int .u8 ((zB l)[i]'hi))):relO (ρ0 W) ((ρ0 W).g b) (.bytes n x) W.heap[b]? 0:=by
 rw [hb]
 refine ⟨⟨?_,.inl rfl⟩,hn,l,hp,fun i hi=>⟨?_,fun h=>by simp at h⟩⟩
 ·show (match W.heap[b]? with | some (.cells c _ _)=>(1,c.size) | _=>(0,0))=_
  rw [hb]
 ·rw [Nat.zero_add]
  have:=hc i (by simpa [zB] using hi)
  simpa [zB] using this
theorem relO_nums {W:World} {b:Nat} {tr:T AV} {cs:Array Value} {t:TypeId} {l:List Nat} (hb:W.heap[b]?=some (.cells cs t (0,0))) (hn:l.length≤140737488355328) (ht:∀ i (hi:i < l.length),zag tr i=.int 7 (l[i]'hi)) (hl:∀ i (hi:i < l.length),(l[i]'hi) < 18446744073709551616) (hc:∀ i (hi:i < (zN l).length),cs[i]?=some (.int .u64 ((zN l)[i]'hi))∧inK .u64 ((zN l)[i]'hi)):
  relO (ρ0 W) ((ρ0 W).g b) (.cells l.length 0 tr) W.heap[b]? 0:=by
 rw [hb]
 refine ⟨⟨fun h=>absurd rfl h,.inl rfl⟩,hn,fun i hi=>⟨Value.int .u64 (l[i]'hi:Nat),?_,?_,by rw [ht i hi]; rfl,fun h=>by simp at h⟩⟩
 ·rw [Nat.zero_add]
  have:=(hc i (by simpa [zN] using hi)).1
  simpa [zN] using this
 ·rw [ht i hi]
  have h1:=(hc i (by simpa [zN] using hi)).2
  have h2:inK .u64 ((l[i]'hi:Nat):Int):=by simpa [zN] using h1
  simp only [rel]
  refine ⟨.u64,_,rfl,rfl,?_,h2.1,h2.2⟩
  show l[i]=Go.VE.encI IntKind.u64 ((l[i]:Nat):Int)
  unfold Go.VE.encI
  have:moN (zad .u64)=18446744073709551616:=rfl
  rw [this]
  have:=hl i hi
  omega
def tree1:T AV:=match a1 with | .cells _ _ t=>t | _=>.nil
theorem a1_is:a1=.cells n10.length 0 tree1:=by kernel_rfl
theorem tab10:((List.range 20).all fun i=>samA (zag tree1 i) (.int 7 (n10.getD i 0)))=true:=by kernel_rfl
theorem small10:(n10.all fun x=>Nat.blt x 18446744073709551616)=true:=by kernel_rfl
theorem inv0 {W:World} (hs:W.ShapedOpen Tryz.prog) (hL:laidMetH Tryz.prog Rows.bootCandsRow.laid W):Inv (ρ0 W) h0 10 W:=by
 obtain ⟨⟨ps,hV⟩,hH⟩:=parts hL
 have hst:∀ i,i < KG→ρ0 W i=some (i,0):=fun i hi=>ρ0_at hi
 refine ⟨fun b o hb=>?_,fun b c o p r x y _ _ h1 h2=>?_,fun b h=>?_,fun b r x h=>?_,by decide,hst⟩
 ·have hk:zjt gl=true:=by kernel_rfl
  rcases zds hk hb with hm | ⟨_,hm⟩
  ·unfold gl at hm
   rcases mem4 hm with e | e | e | e<;>cases e
   ·refine ⟨0,0,ρ0_at (by decide),?_⟩
    obtain ⟨t,h⟩:=block0 hs hH
    rw [h]
    refine ⟨⟨fun h=>absurd rfl h,.inl rfl⟩,by decide,fun i hi=>?_⟩
    obtain rfl:i=0:=by omega
    refine ⟨_,rfl,?_,rfl,fun h=>by simp at h⟩
    show rel (ρ0 W) (.iface 292 (hdV 28)) _
    simp only [rel]
    exact ⟨_,rfl,zxx hst 28⟩
   ·refine ⟨2,0,ρ0_at (by decide),?_⟩
    obtain ⟨cs,t,h,hc⟩:=block2 hs hV
    rw [a1_is]
    refine relO_nums h (by decide) (fun i hi=>?_) (fun i hi=>?_) hc
    ·have:=List.all_eq_true.1 tab10 i (List.mem_range.2 hi)
     rw [zfu _ _ this,List.getD_eq_getElem?_getD,List.getElem?_eq_getElem hi,Option.getD_some]
    ·have:=List.all_eq_true.1 small10 _ (List.getElem_mem hi)
     rwa [Nat.blt_eq] at this
   ·refine ⟨7,0,ρ0_at (by decide),?_⟩
    obtain ⟨cs,t,h,hc⟩:=block3 hs hV
    exact relO_tab h (l:=l32) ⟨by kernel_rfl,by kernel_rfl⟩ (by decide) fun i hi=>(hc i hi).1
   ·refine ⟨8,0,ρ0_at (by decide),?_⟩
    obtain ⟨cs,t,h,hc⟩:=block4 hs hV
    exact relO_tab h (l:=l64) ⟨by kernel_rfl,by kernel_rfl⟩ (by decide) fun i hi=>(hc i hi).1
  ·exact absurd hm (by rw [z0w]; simp)
 ·have f1:∀ {b:Nat} {r x:Nat},ρ0 W b=some (r,x)→b=r:=fun {b r x} h=>by
   have h':(if b < 10 then some (b,0) else none)=some (r,x):=h
   split at h'
   ·cases h'; rfl
   ·cases h'
  rw [f1 h1,f1 h2]
 ·have h':¬ (if b < 10 then some (b,0) else none)=(none:Option (Nat × Nat)):=h
  split at h'
  ·assumption
  ·exact absurd rfl h'
 ·have h':(if b < 10 then some (b,0) else none)=some (r,x):=h
  have:=size10 hs
  split at h'
  ·cases h'; omega
  ·cases h'
end
end
end Go.Proofs.Aud
