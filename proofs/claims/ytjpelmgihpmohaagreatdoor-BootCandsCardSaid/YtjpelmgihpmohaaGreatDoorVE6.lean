/- The evaluator, part 6: definitions and their laws, over any program. No condition. -/
import Derived.Laws.StructEq
import Derived.Test.YtjpelmgihpmohaaGreatDoorVE5
set_option linter.all false
namespace Go.VE
noncomputable section
open Go
section
variable {P:Program}
def EqOk (P:Program) (t:TypeId) (f:AV→AV→Option Bool):Prop:=
 ∀ (ρ:Mp) (w:World) (x y:Operand) (a b:AV) (ra rb:Value) (c:Bool),f a b=some c→rel ρ a ra→rel ρ b rb→
  (do eqGuard .eql t x y ra rb; binOp .eql t ra rb:Sem Value).run P w=.ok (.bool c) w∧(do eqGuard .neq t x y ra rb; binOp .neq t ra rb:Sem Value).run P w=.ok (.bool (!c)) w
theorem zpy {t:TypeId} {kd:IntKind}:EqOk P t (eqI (zad kd)):=by
 intro ρ w x y a b ra rb c hb hx hy
 unfold eqI at hb
 split at hb
 ·rename_i i a j b
  obtain ⟨h1,hb1⟩:=za3 hb
  obtain ⟨h2,hb2⟩:=za3 hb1
  rw [Nat.beq_eq] at h1 h2; subst h1; subst h2
  obtain ⟨p,rfl,e1,hp⟩:=za6 hx
  obtain ⟨q,rfl,e2,hq⟩:=za6 hy
  have hc:c=(p == q):=by
   injection hb2 with hb3
   rw [← hb3,Bool.eq_iff_iff,Nat.beq_eq,beq_iff_eq,e1,e2]
   exact ⟨fun e=>zh0 hp hq e,fun e=>by rw [e]⟩
  subst hc
  constructor<;>simp [eqGuard,binOp,Op.intCmp,bne]
 ·cases hb
theorem zpz {t:TypeId}:EqOk P t eqS:=by
 intro ρ w x y a b ra rb c hb hx hy
 unfold eqS at hb
 split at hb
 ·rename_i n x' m y'
  simp only [rel] at hx hy
  obtain ⟨s,rfl,hs⟩:=hx
  obtain ⟨u,rfl,hu'⟩:=hy
  have hc:c=(s.data.toList == u.data.toList):=by
   injection hb with hb
   rw [← hb,Bool.eq_iff_iff,beq_iff_eq,zl6 hs hu',zay]
   split
   ·rename_i e; rw [Nat.beq_eq] at e; simp [e]
   ·rename_i e; rw [Nat.beq_eq] at e; simp [e]
  subst hc
  constructor<;>simp [eqGuard,binOp,Op.stringOp,ByteArray.toList_eq]
 ·cases hb
theorem zat {t:TypeId} {x y:Operand} {a b:Value} {c:Bool} {w:World} (hg:∀ op,(eqGuard op t x y a b).run P w=.ok () w) (he:∀ d,(Op.equalIn (d + 1) t a b).run P w=.ok c w)
  (h1:binOp .eql t a b=(do pure (.bool (← Op.equal t a b)))) (h2:binOp .neq t a b=(do pure (.bool (!(← Op.equal t a b))))):
  (do eqGuard .eql t x y a b; binOp .eql t a b:Sem Value).run P w=.ok (.bool c) w∧(do eqGuard .neq t x y a b; binOp .neq t a b:Sem Value).run P w=.ok (.bool (!c)) w:=by
 have he':(Op.equal t a b).run P w=.ok c w:=he 9999
 rw [h1,h2]
 constructor<;>simp only [Sem.run_bind,hg,Result.andThen_ok,he',Sem.run_pure]
theorem zsi {t:TypeId} (hu:P.underlying t=some .bool):EqOk P t eqB:=by
 intro ρ w x y a b ra rb c hb hx hy
 unfold eqB at hb
 split at hb
 ·rename_i a b
  rw [zgz hx,zgz hy]
  refine zat (fun op=>by unfold eqGuard; cases op<;>rfl) (fun d=>?_) rfl rfl
  rw [run_equalIn_bool' _ _ _ _ _ hu]
  injection hb with hb
  rw [← hb]
  cases a<;>cases b<;>rfl
 ·cases hb
theorem zix {t e:TypeId} (hu:P.underlying t=some (.pointer e)):EqOk P t eqP:=by
 intro ρ w x y a b ra rb c hb hx hy
 unfold eqP at hb
 split at hb<;>first | (injection hb with hb; subst hb) | cases hb
 all_goals
  simp only [rel] at hx hy
 ·subst hx; subst hy
  exact zat (fun op=>by unfold eqGuard; cases op<;>rfl) (fun d=>by unfold Op.equalIn; simp [zac hu]) rfl rfl
 ·subst hx; obtain ⟨r,o,_,rfl⟩:=hy
  exact zat (fun op=>by unfold eqGuard; cases op<;>rfl) (fun d=>by unfold Op.equalIn; simp [zac hu]) rfl rfl
 ·subst hy; obtain ⟨r,o,_,rfl⟩:=hx
  exact zat (fun op=>by unfold eqGuard; cases op<;>rfl) (fun d=>by unfold Op.equalIn; simp [zac hu]) rfl rfl
theorem zsk {t e:TypeId} {i:TypeInfo} (hu:P.underlying t=some (.pointer e)) (hi:P.info? e=some i) (hz:i.size≠0):EqOk P t eqP2:=by
 intro ρ w x y a b ra rb c hb hx hy
 unfold eqP2 at hb
 split at hb
 ·exact zix hu ρ w x y .nilp .nilp ra rb c hb hx hy
 ·exact zix hu ρ w x y .nilp (.ptr _ _) ra rb c hb hx hy
 ·exact zix hu ρ w x y (.ptr _ _) .nilp ra rb c hb hx hy
 ·rename_i a x' b y'
  rw [zay] at hb
  split at hb
  ·rename_i e0
   rw [Nat.beq_eq] at e0; subst e0
   injection hb with hb
   simp only [rel] at hx hy
   obtain ⟨r,o,h1,rfl⟩:=hx
   obtain ⟨r',o',h2,rfl⟩:=hy
   rw [h1] at h2; cases h2
   have hc:c=decide (x'=y'):=by
    rw [← hb,Bool.eq_iff_iff,Nat.beq_eq,decide_eq_true_eq]
   refine zat (fun op=>by unfold eqGuard; cases op<;>rfl) (fun d=>?_) rfl rfl
   unfold Op.equalIn
   simp only [Sem.run_bind,zac hu,Result.andThen_ok,zaw hi,ne_eq,hz,not_false_eq_true,if_true,sameAddr,beq_self_eq_true,Sem.run_pure]
   congr 1
   rw [hc,Bool.eq_iff_iff,beq_iff_eq,decide_eq_true_eq]
   constructor
   ·intro h; injection h with _ h _; omega
   ·intro h; rw [h]
  ·cases hb
 ·cases hb
theorem zyn {t e:TypeId} (hu:P.underlying t=some (.slice e)):EqOk P t eqSl:=by
 intro ρ w x y a b ra rb c hb hx hy
 unfold eqSl at hb
 split at hb<;>first | (injection hb with hb; subst hb) | cases hb
 all_goals
  simp only [rel] at hx hy
 ·subst hx; subst hy
  exact zat (fun op=>by unfold eqGuard; cases op<;>rfl) (fun d=>by unfold Op.equalIn; simp [zac hu]) rfl rfl
 ·subst hx; obtain ⟨r,o,f,c,_,rfl,_⟩:=hy
  exact zat (fun op=>by unfold eqGuard; cases op<;>rfl) (fun d=>by unfold Op.equalIn; simp [zac hu]) rfl rfl
 ·subst hy; obtain ⟨r,o,f,c,_,rfl,_⟩:=hx
  exact zat (fun op=>by unfold eqGuard; cases op<;>rfl) (fun d=>by unfold Op.equalIn; simp [zac hu]) rfl rfl
theorem zvj {t e e':TypeId} (hu:P.underlying t=some (.map e e')):EqOk P t eqM:=by
 intro ρ w x y a b ra rb c hb hx hy
 unfold eqM at hb
 split at hb<;>first | (injection hb with hb; subst hb) | cases hb
 all_goals
  simp only [rel] at hx hy
 ·subst hx; subst hy
  exact zat (fun op=>by unfold eqGuard; cases op<;>rfl) (fun d=>by unfold Op.equalIn; simp [zac hu]) rfl rfl
 ·subst hx; obtain ⟨r,_,rfl⟩:=hy
  exact zat (fun op=>by unfold eqGuard; cases op<;>rfl) (fun d=>by unfold Op.equalIn; simp [zac hu]) rfl rfl
 ·subst hy; obtain ⟨r,_,rfl⟩:=hx
  exact zat (fun op=>by unfold eqGuard; cases op<;>rfl) (fun d=>by unfold Op.equalIn; simp [zac hu]) rfl rfl
theorem zsj {t:TypeId} {p q:Array TypeId} {v:Bool} (hu:P.underlying t=some (.func p q v)):EqOk P t eqF:=by
 intro ρ w x y a b ra rb c hb hx hy
 unfold eqF at hb
 split at hb<;>first | (injection hb with hb; subst hb) | cases hb
 all_goals
  simp only [rel] at hx hy
 ·subst hx; subst hy
  exact zat (fun op=>by unfold eqGuard; cases op<;>rfl) (fun d=>by unfold Op.equalIn; simp [zac hu]) rfl rfl
 ·subst hx; obtain ⟨cs,rfl,_⟩:=hy
  exact zat (fun op=>by unfold eqGuard; cases op<;>rfl) (fun d=>by unfold Op.equalIn; simp [zac hu]) rfl rfl
 ·subst hy; obtain ⟨cs,rfl,_⟩:=hx
  exact zat (fun op=>by unfold eqGuard; cases op<;>rfl) (fun d=>by unfold Op.equalIn; simp [zac hu]) rfl rfl
theorem zpw {t:TypeId} {ms:Array (String × TypeId)} (hu:P.underlying t=some (.interface ms)) {ρ:Mp} {w:World} {x:Operand} {a:AV} {ra:Value} {c:Bool} (hb:zin a=some c) (hx:rel ρ a ra):
  (do eqGuard .eql t x (.const .nilIface) ra .nilIface; binOp .eql t ra .nilIface:Sem Value).run P w=.ok (.bool c) w∧
  (do eqGuard .neq t x (.const .nilIface) ra .nilIface; binOp .neq t ra .nilIface:Sem Value).run P w=.ok (.bool (!c)) w:=by
 unfold zin at hb
 split at hb<;>first | (injection hb with hb; subst hb) | cases hb
 all_goals
  simp only [rel] at hx
 ·subst hx
  refine zat (fun op=>?_) (fun d=>by unfold Op.equalIn; simp [zac hu]) rfl rfl
  unfold eqGuard; cases op<;>cases x<;>simp
 ·obtain ⟨v,rfl,_⟩:=hx
  exact zat (fun op=>by unfold eqGuard; cases op<;>rfl) (fun d=>by unfold Op.equalIn; simp [zac hu]) rfl rfl
end
end
end Go.VE
namespace Go.VE
noncomputable section
open Go
section
variable {ρ:Mp}
theorem relL_nil {vs:List Value}:relL ρ .nl vs ↔ vs=[]:=by simp only [relL]
theorem relL_cons {a l:AV} {vs:List Value}:relL ρ (.cons a l) vs ↔ ∃ v r,vs=v :: r∧rel ρ a v∧relL ρ l r:=by simp only [relL]
inductive Chain:AV→Prop
 | nl:Chain .nl
 | cons (a l:AV):Chain l→Chain (.cons a l)
theorem zal:∀ {l:AV} {vs:List Value},relL ρ l vs→Chain l
 | .nl,_,_=>.nl
 | .cons a l,_,h=>by
  obtain ⟨v,r,_,_,h3⟩:=relL_cons.1 h
  exact .cons a l (zal h3)
 | .undef,_,h | .int _ _,_,h | .bool _,_,h | .ptr _ _,_,h | .sl _ _ _ _ _,_,h | .str _ _,_,h | .iface _ _,_,h | .nilp,_,h | .nils,_,h | .nili,_,h | .nilm,_,h | .nilf,_,h | .map _,_,h | .func _ _,_,h | .agg _,_,h | .tup _,_,h=>by simp only [relL] at h
theorem zbz {l:AV} (hc:Chain l):∀ {vs:List Value},relL ρ l vs→lenC l=vs.length:=by
 induction hc with
 | nl=>intro vs h; rw [relL_nil.1 h]; rfl
 | cons a l _ ih=>
  intro vs h
  obtain ⟨v,r,rfl,_,h3⟩:=relL_cons.1 h
  simp [lenC,ih h3]
theorem zf4 {l:AV} (hc:Chain l):∀ {vs:List Value} {i:Nat} {a:AV},relL ρ l vs→nthC i l=some a→∃ v,vs[i]?=some v∧rel ρ a v:=by
 induction hc with
 | nl=>intro vs i a _ h; cases i<;>cases h
 | cons b l _ ih=>
  intro vs i a h hn
  obtain ⟨v,r,rfl,h2,h3⟩:=relL_cons.1 h
  cases i with
  | zero=>cases hn; exact ⟨v,rfl,h2⟩
  | succ i=>simp only [nthC] at hn; obtain ⟨u,h4,h5⟩:=ih h3 hn; exact ⟨u,by simpa using h4,h5⟩
theorem zno {l:AV} (hc:Chain l):∀ {vs:List Value} (i:Nat),relL ρ l vs→relL ρ (zke i l) (vs.drop i):=by
 induction hc with
 | nl=>intro vs i h; rw [relL_nil.1 h]; cases i<;>simp [zke,relL]
 | cons b l _ ih=>
  intro vs i h
  cases i with
  | zero=>exact h
  | succ i=>
   obtain ⟨v,r,rfl,h2,h3⟩:=relL_cons.1 h
   exact ih i h3
theorem znp {l:AV} (hc:Chain l):∀ {vs:List Value} (i:Nat),relL ρ l vs→relL ρ (zj5 i l) (vs.take i):=by
 induction hc with
 | nl=>intro vs i h; rw [relL_nil.1 h]; cases i<;>simp [zj5,relL]
 | cons b l _ ih=>
  intro vs i h
  obtain ⟨v,r,rfl,h2,h3⟩:=relL_cons.1 h
  cases i with
  | zero=>simp [zj5,relL]
  | succ i=>exact relL_cons.2 ⟨v,r.take i,rfl,h2,ih i h3⟩
theorem zql {l:AV} (hc:Chain l):∀ {vs us:List Value} {m:AV},relL ρ l vs→relL ρ m us→relL ρ (catC l m) (vs ++ us):=by
 induction hc with
 | nl=>intro vs us m h h'; rw [relL_nil.1 h]; exact h'
 | cons b l _ ih=>
  intro vs us m h h'
  obtain ⟨v,r,rfl,h2,h3⟩:=relL_cons.1 h
  exact relL_cons.2 ⟨v,r ++ us,rfl,h2,ih h3 h'⟩
theorem okCs_cons {a l:AV}:okCs (.cons a l)=true ↔ okC a=true∧okCs l=true:=by
 simp only [okCs,zay]
 by_cases h:okC a=true<;>simp [h]
theorem zm9 {l:AV} (hc:Chain l):∀ (i:Nat),okCs l=true→okCs (zke i l)=true:=by
 induction hc with
 | nl=>intro i _; cases i<;>rfl
 | cons b l _ ih=>intro i h; cases i with
  | zero=>exact h
  | succ i=>exact ih i (okCs_cons.1 h).2
theorem zna {l:AV} (hc:Chain l):∀ (i:Nat),okCs l=true→okCs (zj5 i l)=true:=by
 induction hc with
 | nl=>intro i _; cases i<;>rfl
 | cons b l _ ih=>intro i h; cases i with
  | zero=>rfl
  | succ i=>exact okCs_cons.2 ⟨(okCs_cons.1 h).1,ih i (okCs_cons.1 h).2⟩
theorem zqa {l:AV} (hc:Chain l):∀ {m:AV},okCs l=true→okCs m=true→okCs (catC l m)=true:=by
 induction hc with
 | nl=>intro m _ h; exact h
 | cons b l _ ih=>intro m h h'; exact okCs_cons.2 ⟨(okCs_cons.1 h).1,ih (okCs_cons.1 h).2 h'⟩
theorem zi5 {l:AV} (hc:Chain l):∀ {i:Nat} {a:AV},okCs l=true→nthC i l=some a→okC a=true:=by
 induction hc with
 | nl=>intro i a _ h; cases i<;>cases h
 | cons b l _ ih=>intro i a h hn; cases i with
  | zero=>cases hn; exact (okCs_cons.1 h).1
  | succ i=>exact ih (okCs_cons.1 h).2 hn
theorem ziw {a:AV} {v:Value} (h:okC a=true) (hr:rel ρ a v):zn9 v:=by
 cases a<;>first | (exact absurd (show false=true from h) (by decide)) | skip
 all_goals simp only [rel] at hr
 case int=>obtain ⟨_,_,rfl,_⟩:=hr; trivial
 case ukn=>obtain ⟨_,_,rfl,_⟩:=hr; trivial
 case bool=>subst hr; trivial
 case ptr=>obtain ⟨_,_,_,rfl⟩:=hr; trivial
 case sl=>obtain ⟨_,_,_,_,_,rfl,_⟩:=hr; trivial
 case str=>obtain ⟨_,rfl,_⟩:=hr; trivial
 case iface=>obtain ⟨_,rfl,_⟩:=hr; trivial
 case nilp=>subst hr; trivial
 case nils=>subst hr; trivial
 case nili=>subst hr; trivial
 case nilm=>subst hr; trivial
 case nilf=>subst hr; trivial
 case map=>obtain ⟨_,_,rfl⟩:=hr; trivial
 case func=>obtain ⟨_,rfl,_⟩:=hr; trivial
theorem zvd {v:Value} (h:zn9 v):v.cells=#[v]:=by cases v<;>first | rfl | exact h.elim
theorem zet {a:AV} {v:Value} (h:okCs (zav a)=true) (hr:rel ρ a v):relL ρ (zav a) v.cells.toList:=by
 cases a with
 | agg l=>
  simp only [rel] at hr
  obtain ⟨cs,rfl,h1,_⟩:=hr
  exact h1
 | _=>
  have h1:=(okCs_cons.1 h).1
  have h2:=ziw h1 hr
  rw [zvd h2]
  exact relL_cons.2 ⟨v,[],rfl,hr,relL_nil.2 rfl⟩
theorem zk4 {l:AV} (hc:Chain l):∀ {vs:List Value},okCs l=true→relL ρ l vs→∀ v ∈ vs,zn9 v:=by
 induction hc with
 | nl=>intro vs _ h; rw [relL_nil.1 h]; simp
 | cons a l _ ih=>
  intro vs h hr v hv
  obtain ⟨u,r,rfl,h2,h3⟩:=relL_cons.1 hr
  rcases List.mem_cons.1 hv with rfl | hv
  ·exact ziw (okCs_cons.1 h).1 h2
  ·exact ih (okCs_cons.1 h).2 h3 v hv
theorem zkr {l:AV} (hc:Chain l):∀ i,Chain (zj5 i l):=by
 induction hc with
 | nl=>intro i; cases i<;>exact .nl
 | cons a l _ ih=>intro i; cases i with
  | zero=>exact .nl
  | succ i=>exact .cons _ _ (ih i)
theorem zkq {l:AV} (hc:Chain l):∀ i,Chain (zke i l):=by
 induction hc with
 | nl=>intro i; cases i<;>exact .nl
 | cons a l h ih=>intro i; cases i with
  | zero=>exact .cons a l h
  | succ i=>exact ih i
theorem zi2 {l:AV} (hc:Chain l):∀ {i:Nat} {t:T AV} (j:Nat),i + lenC l≤top→
  (i≤j→j < i + lenC l→nthC (j - i) l=some (zag (zd2 l i t) j))∧(¬ (i≤j∧j < i + lenC l)→zag (zd2 l i t) j=zag t j):=by
 induction hc with
 | nl=>intro i t j _; exact ⟨fun h1 h2=>by simp [lenC] at h2; omega,fun _=>rfl⟩
 | cons a l hc ih=>
  intro i t j hi
  simp only [lenC] at hi ⊢
  have h:=ih (i:=i + 1) (t:=t.put (some a) (i + 1)) j (by omega)
  simp only [zd2]
  constructor
  ·intro h1 h2
   by_cases hj:j=i
   ·subst hj
    rw [h.2 (by omega),zdt (by omega)]
    simp [nthC]
   ·have:=h.1 (by omega) (by omega)
    rw [← this]
    have e:j - i=(j - (i + 1)) + 1:=by omega
    rw [e]; rfl
  ·intro h1
   rw [h.2 (by omega),zdt (by omega),if_neg (by omega)]
theorem zew {t:T AV} {c:Array Value}:∀ (n i o:Nat),o + n≤c.size→(∀ j,j < n→∃ v,c[o + j]?=some v∧rel ρ (zag t (i + j)) v∧okC (zag t (i + j))=true)→
  relL ρ (zb7 t i n) (c.extract o (o + n)).toList∧okCs (zb7 t i n)=true
 | 0,i,o,_,_=>by simp [zb7,relL,okCs]
 | n + 1,i,o,hs,hh=>by
  obtain ⟨v,h1,h2,h3⟩:=hh 0 (by omega)
  have ih:=zew (t:=t) (c:=c) n (i + 1) (o + 1) (by omega) (fun j hj=>by
   have:=hh (j + 1) (by omega)
   rwa [show o + (j + 1)=o + 1 + j by omega,show i + (j + 1)=i + 1 + j by omega] at this)
  refine ⟨relL_cons.2 ⟨v,(c.extract (o + 1) (o + 1 + n)).toList,?_,h2,ih.1⟩,okCs_cons.2 ⟨h3,ih.2⟩⟩
  apply List.ext_getElem?
  intro j
  simp only [Array.getElem?_toList,Array.getElem?_extract]
  cases j with
  | zero=>
   simp only [Nat.add_zero] at h1 ⊢
   rw [if_pos (by omega),h1]; rfl
  | succ j=>
   rw [List.getElem?_cons_succ,Array.getElem?_toList,Array.getElem?_extract]
   by_cases hj:j < n
   ·rw [if_pos (by omega),if_pos (by omega)]
    congr 1; omega
   ·rw [if_neg (by omega),if_neg (by omega)]
end
end
end Go.VE
namespace Go.VE
noncomputable section
open Go
section
variable {ρ:Mp}
theorem zbd {g:Nat × Nat} {n es:Nat} {t:T AV} {x:Option Obj} {base:Nat} (hr:relO ρ g (.cells n es t) x base):∃ c e fz,x=some (.cells c e fz)∧n≤140737488355328∧
  ∀ i,i < n→∃ v,c[base + i]?=some v∧rel ρ (zag t i) v∧okC (zag t i)=true∧¬ (fz.1≤base + i∧base + i < fz.2):=by
 rcases x with _ | x
 ·exact hr.elim
 ·cases x<;>first | exact hr.elim | exact ⟨_,_,_,rfl,hr.2⟩
theorem zbl {g:Nat × Nat} {o:AO} {c:Array Value} {e:TypeId} {fz:Nat × Nat} {base:Nat} (hr:relO ρ g o (some (.cells c e fz)) base):
  (match o with | .cells _ es _=>es≠0→g=(es,c.size) | .bytes _ _=>g=(1,c.size) | .map _=>False | .var _ _ _=>True | .rowb _ _ _ _=>g=(1,c.size))∧fzOk fz c.size:=by
 cases o with
 | cells _ _ _=>exact hr.1
 | bytes _ _=>exact hr.1
 | map _=>exact hr.elim
 | var _ _ _=>exact ⟨trivial,hr.2.1⟩
 | rowb _ _ _ _=>exact hr.2.1
theorem zhm {g:Nat × Nat} {ty m n x:Nat} {o:Option Obj} {base:Nat} (hr:relO ρ g (.rowb ty m n x) o base):relO ρ g (.bytes n x) o base∧∃ c fz,o=some (.cells c ty fz)∧base + m≤c.size:=by
 rcases o with _ | o
 ·exact hr.elim
 ·cases o<;>first | exact hr.elim | skip
  obtain ⟨⟨h1,h3⟩,h2⟩:=hr
  subst h1
  exact ⟨h2,_,_,rfl,h3⟩
theorem zho {g:Nat × Nat} {ty m n x:Nat} {c:Array Value} {fz:Nat × Nat} {base:Nat} (hr:relO ρ g (.bytes n x) (some (.cells c ty fz)) base) (hm:base + m≤c.size):relO ρ g (.rowb ty m n x) (some (.cells c ty fz)) base:=⟨⟨rfl,hm⟩,hr⟩
theorem zhn {g:Nat × Nat} {ty n:Nat} {t:T AV} {x:Option Obj} {base:Nat} (hr:relO ρ g (.var ty n t) x base):base=0∧relO ρ g (.cells n 0 t) x base∧∃ c fz,x=some (.cells c ty fz)∧c.size=n:=by
 rcases x with _ | x
 ·exact hr.elim
 ·cases x<;>first | exact hr.elim | skip
  obtain ⟨⟨h1,h2,h3⟩,h4,h5⟩:=hr
  subst h1
  exact ⟨h2,⟨⟨fun h=>absurd rfl h,h4⟩,h5⟩,_,_,rfl,h3⟩
theorem zqu {g:Nat × Nat} {ty n:Nat} {t:T AV} {c:Array Value} {fz:Nat × Nat} (hr:relO ρ g (.cells n 0 t) (some (.cells c ty fz)) 0) (hs:c.size=n):relO ρ g (.var ty n t) (some (.cells c ty fz)) 0:=
 ⟨⟨rfl,rfl,hs⟩,hr.1.2,hr.2⟩
theorem zcg {g:Nat × Nat} {n x:Nat} {o:Option Obj} {base:Nat} (hr:relO ρ g (.bytes n x) o base):∃ c e fz l,o=some (.cells c e fz)∧n≤140737488355328∧zb6 l n x∧
  ∀ i (hi:i < l.length),c[base + i]?=some (.int .u8 (l[i]'hi).toNat)∧¬ (fz.1≤base + i∧base + i < fz.2):=by
 rcases o with _ | o
 ·exact hr.elim
 ·cases o<;>first | exact hr.elim | (obtain ⟨_,h1,l,h2,h3⟩:=hr; exact ⟨_,_,_,l,rfl,h1,h2,h3⟩)
theorem zi9 {g:Nat × Nat} {l:List (AV × AV)} {o:Option Obj} {base:Nat} (hr:relO ρ g (.map l) o base):∃ es c,o=some (.map es c)∧base=0∧MapKept.Stamped es c∧es.toList.length=l.length∧
  ∀ i (hi:i < l.length) (hj:i < es.toList.length),rel ρ (l[i]'hi).1 (es.toList[i]'hj).key∧rel ρ (l[i]'hi).2 (es.toList[i]'hj).val:=by
 rcases o with _ | o
 ·exact hr.elim
 ·cases o<;>first | exact hr.elim | exact ⟨_,_,rfl,hr⟩
theorem getElem?_lt {c:Array Value} {i:Nat} {v:Value} (h:c[i]?=some v):i < c.size:=by
 rcases Nat.lt_or_ge i c.size with g | g
 ·exact g
 ·rw [Array.getElem?_eq_none g] at h; cases h
theorem zfh {n:Nat} {t:T AV} {c:Array Value} {base:Nat} {q:Nat→Prop} (h:∀ i,i < n→∃ v,c[base + i]?=some v∧rel ρ (zag t i) v∧okC (zag t i)=true∧q i) {i m:Nat} (hm:0 < m) (hi:i + m≤n):base + i + m≤c.size:=by
 obtain ⟨v,h1,_⟩:=h (i + m - 1) (by omega)
 have:=getElem?_lt h1; omega
theorem ziy:∀ (n:Nat) {t:T AV} {i:Nat} {s:T AV} {j0:Nat} (j:Nat),j0 + n≤top→
  zag (zio t n i s j0) j=if j0≤j∧j < j0 + n then zag s (i + (j - j0)) else zag t j
 | 0,t,i,s,j0,j,_=>by rw [if_neg (by omega)]; rfl
 | n + 1,t,i,s,j0,j,hb=>by
  simp only [zio]
  rw [ziy n j (by omega),zdt (by omega)]
  by_cases h1:j0 + 1≤j∧j < j0 + 1 + n
  ·rw [if_pos h1,if_pos (by omega)]; congr 1; omega
  ·rw [if_neg h1]
   by_cases h2:j=j0
   ·subst h2; rw [if_pos rfl,if_pos (by omega)]; congr 1; omega
   ·rw [if_neg h2,if_neg (by omega)]
theorem zub {zero:AV} {size:Nat} (hc:Chain zero) (hz:lenC zero=size):∀ (n:Nat) {i:Nat} {t:T AV} (j:Nat),i + n * size≤top→
  (i≤j→j < i + n * size→nthC ((j - i) % size) zero=some (zag (repT zero size n i t) j))∧(¬ (i≤j∧j < i + n * size)→zag (repT zero size n i t) j=zag t j)
 | 0,i,t,j,_=>⟨fun h1 h2=>by rw [Nat.zero_mul] at h2; omega,fun _=>rfl⟩
 | n + 1,i,t,j,hb=>by
  have e1:(n + 1) * size=size + n * size:=by rw [Nat.add_mul]; omega
  rw [e1] at hb ⊢
  have h:=zub hc hz n (i:=i + size) (t:=zd2 zero i t) j (by omega)
  have g:=zi2 hc (i:=i) (t:=t) j (by omega)
  rw [hz] at g
  simp only [repT]
  constructor
  ·intro h1 h2
   by_cases hj:j < i + size
   ·rw [h.2 (by omega),← g.1 h1 hj]
    congr 1
    exact Nat.mod_eq_of_lt (by omega)
   ·rw [← h.1 (by omega) (by omega)]
    congr 1
    have e2:j - i=(j - (i + size)) + size:=by omega
    rw [e2,Nat.add_mod_right]
  ·intro h1
   rw [h.2 (by omega),g.2 (by omega)]
theorem zf5 {g:Nat × Nat} {l:AV} {c:Array Value} {e:TypeId} (hr:relL ρ l c.toList) (ho:okCs l=true) (hl:lenC l≤140737488355328):relO ρ g (.cells (lenC l) 0 (zd2 l 0 .nil)) (some (.cells c e (0,0))) 0:=by
 have hc:=zal hr
 refine ⟨⟨fun h=>absurd rfl h,.inl rfl⟩,hl,fun i hi=>?_⟩
 have h1:=(zi2 hc (i:=0) (t:=.nil) i (by unfold top; omega)).1 (by omega) (by omega)
 rw [Nat.sub_zero] at h1
 obtain ⟨v,h2,h3⟩:=zf4 hc hr h1
 refine ⟨v,?_,h3,zi5 hc ho h1,by omega⟩
 rw [Nat.zero_add]; rwa [Array.getElem?_toList] at h2
theorem zfr {zero:AV} {zs:Array Value} {c size:Nat} {e:TypeId} (hr:relL ρ zero zs.toList) (ho:okCs zero=true) (hz:lenC zero=size) (hl:c * size≤140737488355328):
  relO ρ (size,c * size) (.cells (c * size) size (zfw zero size c)) (some (.cells ((Array.range (c * size)).map (zs[· % zs.size]!)) e (0,0))) 0:=by
 have hc:=zal hr
 have hs:zs.size=size:=by rw [← hz,zbz hc hr]; simp
 refine ⟨⟨fun _=>by simp,.inl rfl⟩,hl,fun i hi=>?_⟩
 have h1:=(zub hc hz c (i:=0) (t:=.nil) i (by unfold top; omega)).1 (by omega) (by omega)
 rw [Nat.sub_zero] at h1
 obtain ⟨v,h2,h3⟩:=zf4 hc hr h1
 refine ⟨v,?_,h3,zi5 hc ho h1,by omega⟩
 rw [Array.getElem?_toList] at h2
 rw [Nat.zero_add,Array.getElem?_map]
 have:(Array.range (c * size))[i]?=some i:=by simp [hi]
 rw [this,hs]
 simp only [Option.map_some]
 congr 1
 have h4:=getElem?_lt h2
 rw [getElem!_pos zs _ h4]
 rw [Array.getElem?_eq_getElem h4] at h2
 exact Option.some.inj h2
theorem zk6 {zs:Array Value} {c:Nat} {e:TypeId} (hz:zs=#[.int .u8 0]) (hl:c≤140737488355328):
  relO ρ (1,c) (.bytes c 0) (some (.cells ((Array.range (c * 1)).map (zs[· % zs.size]!)) e (0,0))) 0:=by
 subst hz
 refine ⟨⟨by simp,.inl rfl⟩,hl,List.replicate c 0,zdv c,fun i hi=>⟨?_,by omega⟩⟩
 simp only [List.length_replicate] at hi
 simp [hi,Nat.mod_one]
theorem zo6 {l:List UInt8} {n x:Nat} {c:Array Value} {e:TypeId} {fz:Nat × Nat} (hp:zb6 l n x) (hl:n≤140737488355328) (hc:∀ i (hi:i < l.length),c[i]?=some (.int .u8 (l[i]'hi).toNat)) (hf:fzOk fz c.size):
  relO ρ (1,c.size) (.bytes n x) (some (.cells c e fz)) 0:=
 ⟨⟨rfl,hf⟩,hl,l,hp,fun i hi=>⟨by rw [Nat.zero_add]; exact hc i hi,by rw [Nat.zero_add]; exact hf.at_ (getElem?_lt (hc i hi))⟩⟩
theorem zl9 {g:Nat × Nat} {m es:Nat} {t:T AV} {c:Array Value} {e:TypeId} {fz:Nat × Nat} {base i:Nat} {l:AV} {vs:List Value}
  (hsp:(es≠0→g=(es,c.size))∧fzOk fz c.size) (h:m≤140737488355328∧∀ i,i < m→∃ v,c[base + i]?=some v∧rel ρ (zag t i) v∧okC (zag t i)=true∧¬ (fz.1≤base + i∧base + i < fz.2))
  (hr:relL ρ l vs) (ho:okCs l=true) (hi:i + lenC l≤m):relO ρ g (.cells m es (zd2 l i t)) (some (.cells (zed c (base + i) vs) e fz)) base:=by
 have hc:=zal hr
 have hlen:=zbz hc hr
 refine ⟨⟨fun he=>by rw [zau]; exact hsp.1 he,by rw [zau]; exact hsp.2⟩,h.1,fun j hj=>?_⟩
 obtain ⟨v,h1,h2,h3,h4⟩:=h.2 j hj
 have g:=zi2 hc (i:=i) (t:=t) j (by unfold top; omega)
 have hsz:base + i + vs.length≤c.size:=by
  rcases Nat.eq_zero_or_pos (lenC l) with e0 | e0
  ·have:=getElem?_lt h1
   by_cases hx:i < m
   ·obtain ⟨_,h5,_⟩:=h.2 i hx; have:=getElem?_lt h5; omega
   ·obtain ⟨_,h5,_⟩:=h.2 (m - 1) (by omega); have:=getElem?_lt h5; omega
  ·have:=zfh (q:=fun _=>_) h.2 e0 hi; omega
 rw [zbq _ _ _ _ hsz]
 by_cases hin:i≤j∧j < i + lenC l
 ·have h5:=g.1 hin.1 hin.2
  obtain ⟨u,h6,h7⟩:=zf4 hc hr h5
  refine ⟨u,?_,h7,zi5 hc ho h5,h4⟩
  rw [if_pos (by omega),← h6]; congr 1; omega
 ·rw [g.2 hin,if_neg (by omega)]
  exact ⟨v,h1,h2,h3,h4⟩
end
section
variable {P:Program} {ρ:Mp} {h:H} {n:Nat} {w:World} {k:K} {rr:RR}
theorem zx6 (hi:Inv ρ h n w) (hne:rr≠.fail) {b i r base:Nat} {l:AV} {vs:List Value} (hρ:ρ b=some (r,base)) (hr:relL ρ l vs) (ho:okCs l=true)
  (e:wrO b i l (getO h b) h n k=rr):∃ h' w',k .undef h' n=rr∧(storeCells ⟨r,base + i,none⟩ vs).run P w=.ok () w'∧Goes ρ h n w ρ h' n w':=by
 have hc:=zal hr
 have hlen:=zbz hc hr
 have e0:Nat.ble KG b=true∧wrO' b i l (getO h b) h n k=rr:=zab e hne
 clear e
 obtain ⟨hkb,e⟩:=e0
 rw [Nat.ble_eq] at hkb
 cases ho1:getO h b with
 | none=>rw [ho1] at e; exact absurd e.symm hne
 | some o=>
  rw [ho1] at e
  obtain ⟨r',base',h1,h2⟩:=hi.obj b o ho1
  rw [hρ] at h1; cases h1
  cases o with
  | map _=>exact absurd e.symm hne
  | rowb _ _ _ _=>exact absurd e.symm hne
  | var ty m t=>
   obtain ⟨hle,e⟩:=zab e hne
   rw [Nat.ble_eq] at hle
   obtain ⟨hb0,h2',c,fz,g1,gs⟩:=zhn h2
   subst hb0
   rw [g1] at h2'
   obtain ⟨c',et',fz',q1,g2,g3⟩:=zbd h2'
   cases q1
   have hsp:=zbl h2'
   have hsz:0 + i + vs.length≤c.size:=by omega
   obtain ⟨w',r1,r2,r3,r4,r5⟩:=zbk (P:=P) vs (o:=0 + i) (i:=0) g1 (by omega) (fun j hj1 hj2=>hsp.2.at_ (by omega)) (zk4 hc ho hr)
   refine ⟨_,w',e,r1,hi.set ho1 hρ hkb ?_ r3 r4 r5⟩
   rw [r2]
   exact zqu (zl9 hsp ⟨g2,g3⟩ hr ho hle) (by rw [zau]; exact gs)
  | cells m es t=>
   obtain ⟨hle,e⟩:=zab e hne
   rw [Nat.ble_eq] at hle
   obtain ⟨c,et,fz,g1,g2,g3⟩:=zbd h2
   have hsp:=zbl (by rw [← g1]; exact h2:relO ρ (ρ.g b) (.cells m es t) (some (.cells c et fz)) base)
   have hsz:base + i + vs.length≤c.size∨vs=[]:=by
    rcases Nat.eq_zero_or_pos (lenC l) with e0 | e0
    ·right; exact List.eq_nil_of_length_eq_zero (by omega)
    ·left; have:=zfh (q:=fun _=>_) g3 e0 hle; omega
   rcases hsz with hsz | hsz
   ·obtain ⟨w',r1,r2,r3,r4,r5⟩:=zbk (P:=P) vs (o:=base + i) (i:=0) g1 (by omega) (fun j hj1 hj2=>by
     obtain ⟨_,_,_,_,h5⟩:=g3 (j - base) (by omega)
     rwa [show base + (j - base)=j by omega] at h5) (zk4 hc ho hr)
    refine ⟨_,w',e,r1,hi.set ho1 hρ hkb ?_ r3 r4 r5⟩
    rw [r2]
    exact zl9 hsp ⟨g2,g3⟩ hr ho hle
   ·subst hsz
    refine ⟨_,w,e,by simp [storeCells],hi.set ho1 hρ hkb ?_ (fun _ _=>rfl) rfl⟩
    have:=zl9 (e:=et) hsp ⟨g2,g3⟩ hr ho hle
    rw [g1]; exact this
  | bytes m x=>
   simp only [wrO'] at e
   split at e
   ·rename_i q
    obtain ⟨hlt,e1⟩:=zab e hne
    rw [Nat.blt_eq] at hlt
    rw [zam] at e1
    obtain ⟨v,r0,rfl,g4,g5⟩:=relL_cons.1 hr
    obtain rfl:r0=[]:=relL_nil.1 g5
    obtain ⟨z,rfl,hq,hz⟩:=za6 (kd:=.u8) g4
    have hq2:q < 256:=by rw [hq]; exact enc_lt .u8 z
    have hz2:z=(q:Int):=by
     have:=zcu hz
     rw [← hq] at this
     exact (this.2 (this.1.1 hq2)).symm
    subst hz2
    obtain ⟨c,et,fz,lb,g1,g2,g3,g6⟩:=zcg h2
    have hsp:=zbl (by rw [← g1]; exact h2:relO ρ (ρ.g b) (.bytes m x) (some (.cells c et fz)) base)
    have hlb:lb.length=m:=g3.1
    obtain ⟨g7,g8⟩:=g6 i (by omega)
    have hcs:=getElem?_lt g7
    obtain ⟨w',r1,r2,r3,r4,r5⟩:=zbk (P:=P) [.int .u8 (q:Int)] (o:=base + i) (i:=0) g1 (by simp; omega) (fun j hj1 hj2=>by
     simp at hj2
     rwa [show j=base + i by omega]) (fun v hv=>by rw [List.mem_singleton.1 hv]; trivial)
    refine ⟨_,w',e1,r1,hi.set ho1 hρ hkb ?_ r3 r4 r5⟩
    rw [r2]
    refine ⟨⟨by rw [zau]; exact hsp.1,by rw [zau]; exact hsp.2⟩,g2,_,zhh g3 (zjw hq2) (by omega),fun j hj=>?_⟩
    have hj':j < m:=by
     have:=(zhh g3 (zjw hq2) (show i + 1≤m by omega)).1
     rw [this] at hj; exact hj
    obtain ⟨g9,g10⟩:=g6 j (by omega)
    refine ⟨?_,g10⟩
    rw [zbq _ _ _ _ (by simp; omega)]
    simp only [List.length_cons,List.length_nil,Nat.zero_add,Nat.add_zero]
    by_cases hji:j=i
    ·subst hji
     rw [if_pos (by omega)]
     simp only [Nat.sub_self,List.getElem?_cons_zero]
     congr 2
     rw [List.getElem_append_left (by simp; omega),List.getElem_append_right (by simp; omega)]
     simp
     omega
    ·rw [if_neg (by omega),g9]
     congr 3
     by_cases hlt2:j < i
     ·rw [List.getElem_append_left (by simp; omega),List.getElem_append_left (by simp; omega),List.getElem_take]
     ·have hL:(List.take i lb ++ [UInt8.ofNat q]).length=i + 1:=by simp; omega
      rw [List.getElem_append_right (by omega),List.getElem_drop]
      have hI:i + 1 + (j - (List.take i lb ++ [UInt8.ofNat q]).length)=j:=by rw [hL]; omega
      simp only [hI]
   ·exact absurd e.symm hne
end
end
end Go.VE
namespace Go.VE
noncomputable section
open Go
section
variable {P:Program} {ρ:Mp} {h:H} {n:Nat} {w:World} {k:K} {rr:RR}
def Unt (P:Program) (s:Sem Unit) (ρ:Mp) (h:H) (n:Nat) (w:World) (k:K) (rr:RR):Prop:=
 ∃ h' n' σ w',k .undef h' n'=rr∧s.run P w=.ok () w'∧Goes ρ h n w σ h' n' w'
theorem zfk {α:Type} (l:List α):lenL l=l.length:=by induction l<;>simp [z1e,z1b, *]
theorem zfz {r:Nat} {o:Obj} (ho:w.heap[r]?=some o) (hc:∀ c e f,o≠.cells c e f):(getObj r).run P w=.ok o w:=by
 cases o<;>first | exact absurd rfl (hc _ _ _) | simp [getObj,Sem.run,ho]
section
variable (hi:Inv ρ h n w) (hne:rr≠.fail)
include hi hne
theorem z0f {x:AV} {rx:Value} (hx:rel ρ x rx) (e:(asBool x fun b=>k (.bool (!b)) h n)=rr):Val P (Op.unary .not rx) ρ h n w k rr:=by
 obtain ⟨b,rfl,e1⟩:=zhv e hne
 rw [zgz hx]
 exact .same hi e1 rfl (zbr _)
theorem z0d {kd:IntKind} {x:AV} {rx:Value} (hx:rel ρ x rx) (e:(asInt x fun i a=>br (Nat.beq i (zad kd)) (frc ((moN (zad kd) - a) % moN (zad kd)) fun c=>k (.int (zad kd) c) h n) .fail)=rr):
  Val P (Op.unary .neg rx) ρ h n w k rr:=by
 obtain ⟨i,a,rfl,e1⟩:=zbt e hne
 obtain ⟨h1,e2⟩:=zab e1 hne
 rw [Nat.beq_eq] at h1; subst h1
 rw [zam] at e2
 obtain ⟨p,rfl,rfl,hp⟩:=za6 hx
 exact .same hi e2 rfl (zec (zyk _ _).symm)
theorem zvg (j kd:IntKind) (p:Int) (hp:inK j p):encI kd p=if encI j p < hiN (zad j) then encI j p % moN (zad kd) else (encI j p + (18446744073709551616 - moN (zad j))) % moN (zad kd):=by
 unfold inK at hp
 rw [(zb0 j).1,(zb0 j).2] at hp
 cases j<;>cases kd<;>simp only [encI,zad,moN,hiN] at hp ⊢<;>split<;>omega
theorem zu6 {kd:IntKind} {x:AV} {rx:Value} {s d:TypeId} (hx:rel ρ x rx) (hd:P.underlying d=some (.int kd)) {ds:TypeDesc} (hs:P.underlying s=some ds)
  (e:(asInt x fun i a=>br (Nat.blt a (hiN i)) (frc (a % moN (zad kd)) fun c=>k (.int (zad kd) c) h n) (frc ((a + (18446744073709551616 - moN i)) % moN (zad kd)) fun c=>k (.int (zad kd) c) h n))=rr):
  Val P (convert s d rx) ρ h n w k rr:=by
 obtain ⟨i,a,rfl,e1⟩:=zbt e hne
 obtain ⟨j,p,rfl,rfl,rfl,hp⟩:=zdc hx
 refine .same (v:=.int (zad kd) (encI kd p)) (rv:=.int kd (kd.wrap p)) hi ?_ ?_ (zec rfl)
 ·rw [zvg hi hne j kd p hp]
  rw [zay,zam,zam] at e1
  simp only [Nat.blt_eq] at e1
  split at e1
  ·rename_i hh; rw [if_pos hh]; exact e1
  ·rename_i hh; rw [if_neg hh]; exact e1
 ·simp only [convert,Sem.run_bind,zac hd,zac hs,Result.andThen_ok]
  cases ds<;>rfl
theorem zxb {t:Nat} {x:AV} {rx:Value} (hx:rel ρ x rx) {d:TypeDesc} (hd:P.underlying t=some d) (hn:∀ ms,d≠.interface ms) (e:k (.iface t x) h n=rr):Val P (Instr.makeInterface t rx) ρ h n w k rr:=by
 refine .same hi e (rv:=.iface t rx) ?_ (by simp only [rel]; exact ⟨rx,rfl,hx⟩)
 simp only [Instr.makeInterface,Sem.run_bind,zac hd,Result.andThen_ok,Sem.run_pure]
theorem zz9 {x:AV} {rx:Value} {i:Nat} (hx:rel ρ x rx) (e:extA x i h n k=rr):Val P (Instr.extract rx i) ρ h n w k rr:=by
 cases x<;>try exact absurd e.symm hne
 obtain ⟨a,h1,e1⟩:=ztb e hne
 simp only [rel] at hx
 obtain ⟨cs,rfl,hl⟩:=hx
 obtain ⟨v,h2,h3⟩:=zf4 (zal hl) hl h1
 refine .same hi e1 ?_ h3
 rw [Array.getElem?_toList] at h2
 simp only [Instr.extract,h2,Sem.run_pure]
theorem zi6 {t:TypeId} {i:TypeInfo} {d:TypeDesc} (hin:P.info? t=some i) (hd:P.underlying t=some d) {l:AV} {cs:Array Value} {off:Nat} (hl:relL ρ l cs.toList) (ho:okCs l=true) {a:AV}
  (hs:aggD d=true→a=.agg (zj5 i.size (zke off l))) (hs':aggD d=false→nthC off l=some a):∃ v,(part t cs off).run P w=.ok v w∧rel ρ a v:=by
 have hc:=zal hl
 unfold part
 simp only [Sem.run_bind,zft hd,Result.andThen_ok]
 cases ha:aggD d with
 | true=>
  simp only [if_true,Sem.run_bind,zaw hin,Result.andThen_ok,Sem.run_pure]
  refine ⟨_,rfl,?_⟩
  rw [hs ha]
  simp only [rel]
  refine ⟨_,rfl,?_,zna (zkq hc off) _ (zm9 hc off ho)⟩
  have:=znp (zkq hc off) i.size (zno hc off hl)
  have e:(cs.extract off (off + i.size)).toList=(cs.toList.drop off).take i.size:=by
   simp
  rw [e]; exact this
 | false=>
  obtain ⟨v,h1,h2⟩:=zf4 hc hl (hs' ha)
  rw [Array.getElem?_toList] at h1
  simp only [Bool.false_eq_true,if_false,h1,Sem.run_pure]
  exact ⟨v,rfl,h2⟩
theorem zxe {t:TypeId} {fs:Array Field} {fi:Nat} {f:Field} {ft:TypeInfo} {fd:TypeDesc} {x:AV} {rx:Value} (hx:rel ρ x rx) (ht:P.underlying t=some (.struct fs)) (hf:fs[fi]?=some f)
  (hft:P.info? f.type=some ft) (hfd:P.underlying f.type=some fd) (e:zwg f.offset (br (aggD fd) (some ft.size) none) x h n k=rr):Val P (Instr.field t rx fi) ρ h n w k rr:=by
 cases x<;>try exact absurd e.symm hne
 simp only [rel] at hx
 obtain ⟨cs,rfl,hl,ho⟩:=hx
 have key:∃ a,k a h n=rr∧∃ v,(part f.type cs f.offset).run P w=.ok v w∧rel ρ a v:=by
  cases ha:aggD fd with
  | true=>
   rw [ha,zb2] at e
   exact ⟨_,e,zi6 hi hne hft hfd hl ho (fun _=>rfl) (fun h=>by rw [ha] at h; cases h)⟩
  | false=>
   rw [ha,zbe] at e
   obtain ⟨a,h1,e1⟩:=ztb e hne
   exact ⟨a,e1,zi6 hi hne hft hfd hl ho (fun h=>by rw [ha] at h; cases h) (fun _=>h1)⟩
 obtain ⟨a,h1,v,h2,h3⟩:=key
 refine .same hi h1 ?_ h3
 simp only [Instr.field,Sem.run_bind,zac ht,Result.andThen_ok,hf,asAgg,Sem.run_pure,h2]
theorem zly {v:AV} {m:Nat} {f:Nat→RR} (e:idx v m f=rr):∃ kd u,v=.int kd u∧u < hiN kd∧u < m∧f u=rr:=by
 obtain ⟨kd,u,rfl,e1⟩:=zbt e hne
 obtain ⟨h1,e2⟩:=zab e1 hne
 obtain ⟨h2,e3⟩:=zab e2 hne
 rw [Nat.blt_eq] at h1 h2
 exact ⟨kd,u,rfl,h1,h2,e3⟩
theorem zeg {kd u:Nat} {v:Value} (hr:rel ρ (.int kd u) v) (hu:u < hiN kd):∃ j:IntKind,kd=zad j∧v=.int j u:=by
 obtain ⟨j,p,rfl,rfl,rfl,hp⟩:=zdc hr
 have:=zcu hp
 exact ⟨j,rfl,by rw [this.2 (this.1.1 hu)]⟩
theorem zw6 {t:TypeId} {x y:AV} {rx ry:Value} (hx:rel ρ x rx) (hy:rel ρ y ry) (ht:P.underlying t=some .string) (e:zlx x y h n k=rr):Val P (Instr.index t rx ry) ρ h n w k rr:=by
 cases x<;>try exact absurd e.symm hne
 rename_i m z
 simp only [zlx] at e
 obtain ⟨kd,u,rfl,h1,h2,e1⟩:=zly hi hne e
 rw [zam] at e1
 simp only [rel] at hx
 obtain ⟨s,rfl,hs⟩:=hx
 obtain ⟨j,rfl,rfl⟩:=zeg hi hne hy h1
 have hb:=zdg hs h2
 have hlt:u < s.size:=by rw [Lib.size_eq,hs.1]; exact h2
 refine .same hi e1 (rv:=.int .u8 (s[u].toNat:Int)) ?_ ?_
 ·have h0:(0:Int)≤(u:Int):=by omega
  simp only [Instr.index,Sem.run_bind,asIntOf,Sem.run_pure,Result.andThen_ok,zac ht,h0,if_true,Int.toNat_natCast]
  rw [show s[u]?=some s[u] by simp [hlt]]
  rfl
 ·rw [hb]
  have e2:s[u]=(s.data.toList[u]'(by rw [hs.1]; exact h2)):=by
   simp [ByteArray.getElem_eq_getElem_data]
  rw [← e2]
  have hlt2:s[u].toNat < 256:=s[u].toNat_lt
  have:=zek (ρ:=ρ) (kd:=.u8) (zkw (k:=.u8) (m:=s[u].toNat) (by simpa [zad,hiN] using hlt2))
  rwa [zgj (k:=.u8) (by simpa [zad,moN] using hlt2)] at this
theorem zw5 {t et:TypeId} {m:Nat} {ei:TypeInfo} {ed:TypeDesc} {x y:AV} {rx ry:Value} (hx:rel ρ x rx) (hy:rel ρ y ry) (ht:P.underlying t=some (.array m et)) (hei:P.info? et=some ei) (hed:P.underlying et=some ed)
  (e:(idx y m fun i=>zyz ei.size (aggD ed) i x h n k)=rr):Val P (Instr.index t rx ry) ρ h n w k rr:=by
 obtain ⟨kd,u,rfl,h1,h2,e1⟩:=zly hi hne e
 obtain ⟨j,rfl,rfl⟩:=zeg hi hne hy h1
 cases x<;>try exact absurd e1.symm hne
 simp only [rel] at hx
 obtain ⟨cs,rfl,hl,ho⟩:=hx
 have key:∃ a,k a h n=rr∧∃ v,(part et cs (u * ei.size)).run P w=.ok v w∧rel ρ a v:=by
  simp only [zyz] at e1
  cases ha:aggD ed with
  | true=>
   rw [ha,zb2] at e1
   exact ⟨_,e1,zi6 hi hne hei hed hl ho (fun _=>rfl) (fun h=>by rw [ha] at h; cases h)⟩
  | false=>
   rw [ha,zbe] at e1
   obtain ⟨a,h1,e1⟩:=ztb e1 hne
   exact ⟨a,e1,zi6 hi hne hei hed hl ho (fun h=>by rw [ha] at h; cases h) (fun _=>h1)⟩
 obtain ⟨a,h3,v,h4,h5⟩:=key
 refine .same hi h3 ?_ h5
 have h0:(0:Int)≤(u:Int)∧(u:Int) < (m:Int):=by omega
 simp only [Instr.index,Sem.run_bind,asIntOf,Sem.run_pure,Result.andThen_ok,zac ht,h0,and_self,if_true,Int.toNat_natCast,zaw hei,h4]
theorem zut {t a:TypeId} {ad:TypeDesc} {ai:TypeInfo} {zero:AV} {zv:Value} {x:AV} {rx:Value} (hx:rel ρ x rx) (ha:P.underlying a=some ad) (hn:∀ ms,ad≠.interface ms) (hai:P.info? a=some ai) (hz:ai.zero=some zv)
  (hzr:rel ρ zero zv) (e:zpj a zero x h n k=rr):Val P (Instr.typeAssert rx t a true) ρ h n w k rr:=by
 have hfail:Val P (Instr.typeAssert rx t a true) ρ h n w k rr ↔ Val P (Instr.typeAssert rx t a true) ρ h n w k rr:=Iff.rfl
 have h2:∀ (v:AV) (rv:Value) (b:Bool),rel ρ v rv→rel ρ (two v b) (.tuple #[rv,.bool b]):=fun v rv b hv=>by
  simp only [two,rel]
  exact ⟨_,rfl,relL_cons.2 ⟨rv,[.bool b],rfl,hv,relL_cons.2 ⟨.bool b,[],rfl,zbr b,relL_nil.2 rfl⟩⟩⟩
 cases x<;>try exact absurd e.symm hne
 case iface u v=>
  simp only [rel] at hx
  obtain ⟨rv,rfl,hv⟩:=hx
  simp only [zpj,zay] at e
  by_cases hu:Nat.beq u a=true
  ·rw [if_pos hu] at e
   rw [Nat.beq_eq] at hu; subst hu
   refine .same hi e ?_ (h2 _ _ _ hv)
   simp only [Instr.typeAssert,Sem.run_bind,zac ha,Result.andThen_ok]
   cases ad<;>first | exact absurd rfl (hn _) | simp
  ·rw [if_neg hu] at e
   rw [Nat.beq_eq] at hu
   refine .same hi e ?_ (h2 _ _ _ hzr)
   simp only [Instr.typeAssert,Sem.run_bind,zac ha,Result.andThen_ok]
   cases ad<;>first | exact absurd rfl (hn _) | simp [hu,zbj hai hz]
 case nili=>
  simp only [rel] at hx
  subst hx
  refine .same hi e ?_ (h2 _ _ _ hzr)
  simp only [Instr.typeAssert,Sem.run_bind,zac ha,Result.andThen_ok]
  cases ad<;>first | exact absurd rfl (hn _) | simp [zbj hai hz]
theorem zeu {m:Nat} {r:RR} (e:zf9 m r=rr):m < 9223372036854775808∧r=rr:=by
 obtain ⟨h1,h2⟩:=zab e hne
 rw [Nat.blt_eq] at h1
 exact ⟨h1,h2⟩
theorem zcn {m:Nat} (hm:m < 9223372036854775808):rel ρ (.int 3 m) (goInt m):=by
 have:=zek (ρ:=ρ) (kd:=.i64) (zkw (k:=.i64) (m:=m) (by simpa [zad,hiN] using hm))
 rwa [zgj (k:=.i64) (by simp [zad,moN]; omega)] at this
theorem zqt {m:Nat} {s:Sem Value} (hs:s.run P w=.ok (goInt m) w) (e:zf9 m (k (.int 3 m) h n)=rr):Val P s ρ h n w k rr:=by
 obtain ⟨h1,e1⟩:=zeu hi hne e
 exact .same hi e1 hs (zcn hi hne h1)
theorem zw8 {t:TypeId} {tt:TypeId} {ats:Array TypeId} {x:AV} {rx:Value} (hx:rel ρ x rx) (h0:ats[0]?=some t) (hd:P.underlying t=some .string)
  (e:zl0 x h n k=rr):Val P (Builtin.len_ ats tt #[rx]) ρ h n w k rr:=by
 cases x<;>try exact absurd e.symm hne
 obtain ⟨h1,e1⟩:=zeu hi hne e
 rw [zam] at e1
 simp only [rel] at hx
 obtain ⟨s,rfl,hs⟩:=hx
 refine .same hi e1 ?_ (zcn hi hne h1)
 rw [← hs.1,← Lib.size_eq]
 simp [Builtin.len_,h0,zac hd]
theorem zuy {t et:TypeId} {tt:TypeId} {ats:Array TypeId} {x:AV} {rx:Value} (hx:rel ρ x rx) (h0:ats[0]?=some t) (hd:P.underlying t=some (.slice et))
  (e:zgc x h n k=rr):Val P (Builtin.len_ ats tt #[rx]) ρ h n w k rr:=by
 cases x<;>try exact absurd e.symm hne
 case nils=>
  simp only [rel] at hx; subst hx
  exact .same hi e (by simp [Builtin.len_,h0,zac hd]) (zcn hi hne (m:=0) (by omega))
 case sl b o l c ex=>
  obtain ⟨h1,e1⟩:=zeu hi hne e
  rw [zam] at e1
  simp only [rel] at hx
  obtain ⟨r,o',f,c',_,rfl,_⟩:=hx
  exact .same hi e1 (by simp [Builtin.len_,h0,zac hd]) (zcn hi hne h1)
theorem zw7 {t kt et:TypeId} {tt:TypeId} {ats:Array TypeId} {x:AV} {rx:Value} (hx:rel ρ x rx) (h0:ats[0]?=some t) (hd:P.underlying t=some (.map kt et))
  (e:zrd x h n k=rr):Val P (Builtin.len_ ats tt #[rx]) ρ h n w k rr:=by
 cases x<;>try exact absurd e.symm hne
 case nilm=>
  simp only [rel] at hx; subst hx
  exact .same hi e (by simp [Builtin.len_,h0,zac hd]) (zcn hi hne (m:=0) (by omega))
 case map b=>
  simp only [rel] at hx
  obtain ⟨r,hρ,rfl⟩:=hx
  simp only [zrd] at e
  cases ho:getO h b with
  | none=>rw [ho] at e; exact absurd e.symm hne
  | some o=>
   rw [ho] at e
   cases o<;>try exact absurd e.symm hne
   rename_i l
   obtain ⟨r',base,h1,h2⟩:=hi.obj b _ ho
   rw [hρ] at h1; cases h1
   obtain ⟨es,cl,h3,_,_,h4,_⟩:=zi9 h2
   have e2:lenL l=es.size:=by rw [zfk,← h4]; simp
   simp only [lenO] at e
   obtain ⟨h5,e1⟩:=zeu hi hne e
   rw [zam] at e1
   refine .same hi e1 ?_ (zcn hi hne h5)
   rw [e2]
   have h6:=zfz (P:=P) h3 (fun _ _ _=>by simp)
   simp only [Builtin.len_]
   simp [h0,zac hd,h6]
end
end
end
end Go.VE
namespace Go.VE
noncomputable section
open Go
section
variable {P:Program} {ρ:Mp} {h:H} {n:Nat} {w:World} {k:K} {rr:RR}
theorem zca {b off:Nat} {v:Value} (hr:rel ρ (.ptr b off) v):∃ r o,ρ b=some (r,o)∧v=.pointer (some ⟨r,o + off,none⟩):=by simpa only [rel] using hr
theorem zd3 {b off r o:Nat} (hρ:ρ b=some (r,o)):rel ρ (.ptr b off) (.pointer (some ⟨r,o + off,none⟩)):=by simp only [rel]; exact ⟨r,o,hρ,rfl⟩
theorem zbp (hi:Inv ρ h n w) (hne:rr≠.fail) {ao:AO} {o:Obj} {f:H→Nat→RR} {y:Nat × Nat} (e:alloc ao h n f=rr) (hr:fitO ao=true→relO ρ y ao (some o) 0):
  f (setO h n ao) (n + 1)=rr∧Goes ρ h n w (ρ.ext n (w.heap.size,0) y) (setO h n ao) (n + 1) (w.alloc o):=by
 obtain ⟨h1,h2,h3⟩:=zdy e hne
 exact ⟨h3,hi.push h1 rfl (hr h2)⟩
theorem za9 (e:TypeId) (c:Array Value):(newRow e c).run P w=.ok ⟨w.heap.size,0,none⟩ (w.alloc (.cells c e)):=by
 simp [newRow]
theorem zmg {a:Nat} (h:a < 9223372036854775808):IntKind.i64.wrap (a:Int)=a:=by
 have h1:=zhq .i64 (a:Int)
 exact zh0 h1.2 (zkw (k:=.i64) (by simpa [zad,hiN] using h)) h1.1
theorem zhd {t et:TypeId} {ei:TypeInfo} {z:Value} {j1 j2:IntKind} {a c:Nat} (ht:P.underlying t=some (.slice et)) (hei:P.info? et=some ei) (hz:ei.zero=some z) (h1:a≤c) (h2:c < 9223372036854775808)
  (h3:c * ei.bytes≤140737488355328) (hs:ei.size=z.cells.size):
  (Instr.makeSlice t (.int j1 a) (.int j2 c)).run P w=.ok (.slice (some ⟨w.heap.size,0,none⟩) a c) (w.alloc (.cells ((Array.range (c * ei.size)).map (z.cells[· % z.cells.size]!)) et)):=by
 have w1:=zmg (a:=a) (by omega)
 have w2:=zmg (a:=c) h2
 have g1:¬ ((c:Int) < 0):=by omega
 have g2:¬ ((ei.bytes:Int) * (c:Int) > 2 ^ 48):=by
  have:(ei.bytes:Int) * (c:Int)=((c * ei.bytes:Nat):Int):=by rw [Int.natCast_mul,Int.mul_comm]
  rw [this]; omega
 have g3:¬ ((a:Int) < 0):=by omega
 have g4:¬ ((a:Int) > (c:Int)):=by omega
 have g5:¬ (c * ei.bytes > roomBytes):=by unfold roomBytes; omega
 simp only [Instr.makeSlice,Sem.run_bind,zac ht,Result.andThen_ok,Go.asInt,asIntOf,Sem.run_pure,zch hei,w1,w2,g1,g2,g3,g4,decide_false,Bool.or_self,Bool.false_eq_true,if_false,Int.toNat_natCast,askRoom,g5,zaw hei]
 by_cases h0:c * ei.size=0
 ·simp only [h0,if_true,Sem.run_pure,Result.andThen_ok]
  simp [za9,show Array.range 0=#[] from rfl]
 ·simp only [h0,if_false,Sem.run_bind,zbj hei hz,Sem.run_pure,Result.andThen_ok,za9]
theorem zoy (a:Array Obj) (o:Obj) (f:Obj→Obj):(a.push o).modify a.size f=a.push (f o):=by
 apply Array.ext_getElem?
 intro i
 rw [Array.getElem?_modify]
 by_cases hi:a.size=i
 ·subst hi; simp
 ·rw [if_neg hi]
  simp only [Array.getElem?_push]
  rw [if_neg (fun h=>hi h.symm),if_neg (fun h=>hi h.symm)]
theorem znw {et:TypeId} {sb:ByteArray} {cap:Nat} (hcap:(Question.appendCap sb.size 0 et).cut (w.tape w.drawn (.appendCap sb.size 0 et))=cap)
  (htot:(sb.data.map (fun b=>Value.int .u8 (b.toNat:Int)) ++ Array.replicate (cap - sb.size) (Value.int .u8 0)).size=cap):
  (Conv.stringToBytes et sb).run P w=.ok (.slice (some ⟨w.heap.size,0,none⟩) sb.size cap)
   { w with drawn:=w.drawn + 1,heap:=w.heap.push (.cells (sb.data.map (fun b=>Value.int .u8 (b.toNat:Int)) ++ Array.replicate (cap - sb.size) (Value.int .u8 0)) et (cap,cap + 1)) }:=by
 have hch:(choose (.appendCap sb.size 0 et)).run P w=.ok cap { w with drawn:=w.drawn + 1 }:=by
  simp only [choose,Sem.run,Question.forced,Bool.false_eq_true,if_false,hcap]
 unfold Conv.stringToBytes
 simp only [Sem.run_bind,hch,Result.andThen_ok,za9]
 generalize hc:(sb.data.map (fun b=>Value.int .u8 (b.toNat:Int)) ++ Array.replicate (cap - sb.size) (Value.int .u8 0))=c at *
 simp only [markStringish,Sem.run_bind,run_shape,World.shape?,World.alloc,Array.getElem?_push_size,Result.andThen_ok,run_freeze,World.freeze,Nat.succ_ne_zero,if_false,Sem.run_pure,htot]
 congr 1
 rw [zoy]
 simp
theorem zk5 {bl:Bool} {t:TypeId} {l:AV} {c:Array Value} (hr:relL ρ l c.toList) (ho:okCs l=true) (hf:fitO (zl4 bl t l)=true):relO ρ (0,0) (zl4 bl t l) (some (.cells c t (0,0))) 0:=by
 have hlen:=zbz (zal hr) hr
 cases bl with
 | false=>exact zf5 hr ho (by simpa [zl4,br,fitO] using hf)
 | true=>exact zqu (zf5 hr ho (by simpa [zl4,br,fitO] using hf)) (by simpa using hlen.symm)
section
variable (hi:Inv ρ h n w) (hne:rr≠.fail)
include hi hne
theorem zuv {s:TypeId} {fs:Array Field} {fi:Nat} {f:Field} {ft:TypeInfo} {x:AV} {rx:Value} (hx:rel ρ x rx) (hs:P.underlying s=some (.struct fs)) (hf:fs[fi]?=some f) (hft:P.info? f.type=some ft) (hz:ft.size≠0)
  (e:(zbx x fun b o=>frc (o + f.offset) fun o=>k (.ptr b o) h n)=rr):Val P (Instr.fieldAt s rx fi) ρ h n w k rr:=by
 obtain ⟨b,off,rfl,e1⟩:=zbu e hne
 rw [zam] at e1
 obtain ⟨r,o,h1,rfl⟩:=zca hx
 refine .same hi e1 ?_ (zd3 h1)
 simp only [Instr.fieldAt,Sem.run_bind,zac hs,Result.andThen_ok,hf,Instr.sureAddr,Sem.run_pure,fieldPlace,zaw hft,hz,if_false]
 rw [zcq,Nat.add_assoc]
theorem zru {t et:TypeId} {m:Nat} {ei:TypeInfo} {x y:AV} {rx ry:Value} (hx:rel ρ x rx) (hy:rel ρ y ry) (ht:P.underlying t=some (.array m et)) (hei:P.info? et=some ei)
  (e:(zbx x fun b off=>idx y m fun i=>frc (off + i * ei.size) fun o=>k (.ptr b o) h n)=rr):Val P (Instr.indexAt t rx ry) ρ h n w k rr:=by
 obtain ⟨b,off,rfl,e1⟩:=zbu e hne
 obtain ⟨kd,u,rfl,h1,h2,e2⟩:=zly hi hne e1
 rw [zam] at e2
 obtain ⟨j,rfl,rfl⟩:=zeg hi hne hy h1
 obtain ⟨r,o,h3,rfl⟩:=zca hx
 refine .same hi e2 ?_ (zd3 h3)
 have h0:(0:Int)≤(u:Int)∧(u:Int) < (m:Int):=by omega
 simp only [Instr.indexAt,Sem.run_bind,asIntOf,Sem.run_pure,Result.andThen_ok,zac ht,Instr.sureAddr,h0,and_self,if_true,zaw hei,Int.toNat_natCast]
 rw [zcq,Nat.add_assoc]
theorem zuw {t et:TypeId} {ei:TypeInfo} {x y:AV} {rx ry:Value} (hx:rel ρ x rx) (hy:rel ρ y ry) (ht:P.underlying t=some (.slice et)) (hei:P.info? et=some ei)
  (e:(asSl x fun b off len=>idx y len fun i=>frc (off + i * ei.size) fun o=>k (.ptr b o) h n)=rr):Val P (Instr.indexAt t rx ry) ρ h n w k rr:=by
 obtain ⟨b,off,len,cap,ex,rfl,e1⟩:=zvb e hne
 obtain ⟨kd,u,rfl,h1,h2,e2⟩:=zly hi hne e1
 rw [zam] at e2
 obtain ⟨j,rfl,rfl⟩:=zeg hi hne hy h1
 simp only [rel] at hx
 obtain ⟨r,o,f,c,h3,rfl,h4,h5,h6,h7,_⟩:=hx
 have hf:f=o + off:=by omega
 subst hf
 refine .same hi e2 ?_ (zd3 h3)
 have h0:(0:Int)≤(u:Int)∧(u:Int) < (len:Int):=by omega
 simp only [Instr.indexAt,Sem.run_bind,asIntOf,Sem.run_pure,Result.andThen_ok,zac ht,h0,and_self,if_true,zaw hei,Int.toNat_natCast]
 rw [zcq,Nat.add_assoc]
theorem zf7 {t:TypeId} {d:TypeDesc} {x:AV} {rx:Value} (hx:rel ρ x rx) (ht:P.underlying t=some d) (hd:aggD d=false) (e:(zbx x fun b off=>rdO off (getO h b) h n k)=rr):
  Val0 P (Instr.loadAt t rx) ρ h n w k rr:=by
 obtain ⟨b,off,rfl,e1⟩:=zbu e hne
 obtain ⟨r,o,h1,rfl⟩:=zca hx
 have hrun:∀ v,w.cell? ⟨r,o + off,none⟩=some v→(Instr.loadAt t (.pointer (some ⟨r,o + off,none⟩))).run P w=.ok v w:=fun v hv=>by
  simp only [Instr.loadAt,Sem.run_bind,Instr.sureAddr,Sem.run_pure,Result.andThen_ok,loadVar,zft ht,hd,Bool.false_eq_true,if_false,run_load,hv]
 cases ho:getO h b with
 | none=>rw [ho] at e1; exact absurd e1.symm hne
 | some ob=>
  rw [ho] at e1
  obtain ⟨r',base,h2,h3⟩:=hi.obj b _ ho
  rw [h1] at h2; cases h2
  cases ob with
  | map _=>exact absurd e1.symm hne
  | rowb _ _ _ _=>exact absurd e1.symm hne
  | var ty m tr=>
   obtain ⟨h4,e2⟩:=zab e1 hne
   rw [Nat.blt_eq] at h4
   obtain ⟨_,h3',_⟩:=zhn h3
   obtain ⟨c,et,fz,g1,g2,g3⟩:=zbd h3'
   obtain ⟨v,g4,g5,_⟩:=g3 off h4
   exact .of e2 (hrun v (by rw [zhz g1]; exact g4)) g5
  | cells m es tr=>
   obtain ⟨h4,e2⟩:=zab e1 hne
   rw [Nat.blt_eq] at h4
   obtain ⟨c,et,fz,g1,g2,g3⟩:=zbd h3
   obtain ⟨v,g4,g5,_⟩:=g3 off h4
   exact .of e2 (hrun v (by rw [zhz g1]; exact g4)) g5
  | bytes m z=>
   obtain ⟨h4,e2⟩:=zab e1 hne
   rw [Nat.blt_eq] at h4
   rw [zam] at e2
   obtain ⟨c,et,fz,l,g1,g2,g3,g4⟩:=zcg h3
   obtain ⟨g5,_⟩:=g4 off (by rw [g3.1]; exact h4)
   refine .of e2 (hrun _ (by rw [zhz g1]; exact g5)) ?_
   rw [zdg g3 h4]
   have hlt2:(l[off]'(by rw [g3.1]; exact h4)).toNat < 256:=(l[off]'(by rw [g3.1]; exact h4)).toNat_lt
   have:=zek (ρ:=ρ) (kd:=.u8) (zkw (k:=.u8) (m:=(l[off]'(by rw [g3.1]; exact h4)).toNat) (by simpa [zad,hiN] using hlt2))
   rwa [zgj (k:=.u8) (by simpa [zad,moN] using hlt2)] at this
theorem zlb {t:TypeId} {d:TypeDesc} {i:TypeInfo} {x:AV} {rx:Value} (hx:rel ρ x rx) (ht:P.underlying t=some d) (hd:aggD d=true) (hin:P.info? t=some i) (e:(zbx x fun b off=>rdNO off i.size (getO h b) h n k)=rr):
  Val0 P (Instr.loadAt t rx) ρ h n w k rr:=by
 obtain ⟨b,off,rfl,e1⟩:=zbu e hne
 obtain ⟨r,o,h1,rfl⟩:=zca hx
 cases ho:getO h b with
 | none=>rw [ho] at e1; exact absurd e1.symm hne
 | some ob=>
  rw [ho] at e1
  obtain ⟨r',base,h2,h3⟩:=hi.obj b _ ho
  rw [h1] at h2; cases h2
  cases ob<;>try exact absurd e1.symm hne
  rename_i m es tr
  obtain ⟨h4,e2⟩:=zab e1 hne
  rw [Nat.ble_eq] at h4
  obtain ⟨c,et,fz,g1,g2,g3⟩:=zbd h3
  have hsz:o + off + i.size≤c.size∨i.size=0:=by
   rcases Nat.eq_zero_or_pos i.size with e0 | e0
   ·right; exact e0
   ·left; exact zfh (q:=fun _=>_) g3 e0 h4
  rcases hsz with hsz | hsz
  ·have hl:=zcv (P:=P) g1 hsz
   have hcr:=zew (ρ:=ρ) (t:=tr) (c:=c) i.size off (o + off) hsz (fun j hj=>by
    obtain ⟨v,g4,g5,g6,_⟩:=g3 (off + j) (by omega)
    exact ⟨v,by rw [← g4]; congr 1; omega,g5,g6⟩)
   refine .of e2 (rv:=.agg (c.extract (o + off) (o + off + i.size))) ?_ (by simp only [rel]; exact ⟨_,rfl,hcr⟩)
   simp only [Instr.loadAt,Sem.run_bind,Instr.sureAddr,Sem.run_pure,Result.andThen_ok,loadVar,zft ht,hd,if_true,zaw hin,hl]
  ·rw [hsz] at e2
   refine .of e2 (rv:=.agg #[]) ?_ (by simp only [rel]; exact ⟨_,rfl,by simp [zb7,relL],rfl⟩)
   simp only [Instr.loadAt,Sem.run_bind,Instr.sureAddr,Sem.run_pure,Result.andThen_ok,loadVar,zft ht,hd,if_true,zaw hin,hsz,loadCells,loadCellsFrom]
theorem zu0 {t:TypeId} {d:TypeDesc} {x:AV} {rx:Value} (hx:rel ρ x rx) (ht:P.underlying t=some d) (hd:aggD d=false) (e:(zbx x fun b off=>rdO off (getO h b) h n k)=rr):
  Val P (Instr.loadAt t rx) ρ h n w k rr:=(zf7 hi hne hx ht hd e).val hi
theorem zu1 {t:TypeId} {d:TypeDesc} {i:TypeInfo} {x:AV} {rx:Value} (hx:rel ρ x rx) (ht:P.underlying t=some d) (hd:aggD d=true) (hin:P.info? t=some i) (e:(zbx x fun b off=>rdNO off i.size (getO h b) h n k)=rr):
  Val P (Instr.loadAt t rx) ρ h n w k rr:=(zlb hi hne hx ht hd hin e).val hi
theorem zny {t:TypeId} {i:TypeInfo} {x y:AV} {rx ry:Value} (hx:rel ρ x rx) (hy:rel ρ y ry) (hin:P.info? t=some i)
  (e:(zbx x fun b off=>br (Nat.beq (lenC (zav y)) i.size) (br (okCs (zav y)) (wrO b off (zav y) (getO h b) h n k) .fail) .fail)=rr):Unt P (Instr.storeAt t rx ry) ρ h n w k rr:=by
 obtain ⟨b,off,rfl,e1⟩:=zbu e hne
 obtain ⟨r,o,h1,rfl⟩:=zca hx
 obtain ⟨h2,e2⟩:=zab e1 hne
 obtain ⟨h3,e3⟩:=zab e2 hne
 rw [Nat.beq_eq] at h2
 have hc:=zet h3 hy
 obtain ⟨h',w',g1,g2,g3⟩:=zx6 (P:=P) hi hne h1 hc h3 e3
 have hl:=zbz (zal hc) hc
 refine ⟨h',n,ρ,w',g1,?_,g3⟩
 have hsz:ry.cells.size=i.size:=by rw [← h2,hl]; simp
 simp only [Instr.storeAt,Sem.run_bind,Instr.sureAddr,Sem.run_pure,Result.andThen_ok,storeVar,zaw hin,hsz,ne_eq,not_true_eq_false,if_false]
 simpa using g2
theorem z0e {bl:Bool} {t:TypeId} {i:TypeInfo} {z:Value} {l:AV} (hin:P.info? t=some i) (hz:i.zero=some z) (hl:relL ρ l z.cells.toList) (ho:okCs l=true)
  (e:(alloc (zl4 bl t l) h n fun h' m=>k (.ptr n 0) h' m)=rr):Val P (Instr.alloc t true (.tuple #[])) ρ h n w k rr:=by
 obtain ⟨e1,g⟩:=zbp hi hne (o:=.cells z.cells t) (y:=(0,0)) e (fun hf=>zk5 hl ho hf)
 refine ⟨_,_,_,_,_,_,e1,?_,g,zd3 (Mp.ext_same _ _ _ _)⟩
 simp only [Instr.alloc,Sem.run_bind,zbj hin hz,Result.andThen_ok,newVar,za9,Sem.run_pure]
theorem zxd {t:TypeId} {i:TypeInfo} {m:Nat} (hin:P.info? t=some i) (hz:i.zero=some (.agg (Array.replicate m (.int .u8 0))))
  (e:(alloc (.bytes m 0) h n fun h' j=>k (.ptr n 0) h' j)=rr):Val P (Instr.alloc t true (.tuple #[])) ρ h n w k rr:=by
 obtain ⟨e1,g⟩:=zbp hi hne (o:=.cells (Array.replicate m (.int .u8 0)) t) e (fun hf=>zo6 (zdv m) (by simpa [fitO] using hf) (fun i hi=>by simp at hi; simp [hi]) (.inl rfl))
 refine ⟨_,_,_,_,_,_,e1,?_,g,zd3 (Mp.ext_same _ _ _ _)⟩
 simp only [Instr.alloc,Sem.run_bind,zbj hin hz,Result.andThen_ok,newVar,Value.cells,za9,Sem.run_pure]
theorem zz5 {t:TypeId} {x:AV} {rx:Value} (hx:rel ρ x rx) (e:br (okCs (zav x)) (alloc (.cells (lenC (zav x)) 0 (zd2 (zav x) 0 .nil)) h n fun h' m=>k (.ptr n 0) h' m) .fail=rr):Val P (Instr.box t rx) ρ h n w k rr:=by
 obtain ⟨h1,e0⟩:=zab e hne
 have hl:=zet h1 hx
 obtain ⟨e1,g⟩:=zbp hi hne (o:=.cells rx.cells t) (y:=(0,0)) e0 (fun hf=>zf5 hl h1 (by simpa [fitO] using hf))
 refine ⟨_,_,_,_,_,_,e1,?_,g,zd3 (Mp.ext_same _ _ _ _)⟩
 simp only [Instr.box,Sem.run_bind,newVar,za9,Result.andThen_ok,Sem.run_pure]
theorem zu4 {t:TypeId} (e:(alloc (.map []) h n fun h' m=>k (.map n) h' m)=rr):Val P (Instr.makeMap t none) ρ h n w k rr:=by
 obtain ⟨e1,g⟩:=zbp hi hne (o:=.map #[] 0) (y:=(0,0)) e (fun _=>⟨rfl,MapKept.stamped_empty 0,rfl,fun i hi=>by simp at hi⟩)
 refine ⟨_,_,_,_,_,.map (some w.heap.size),e1,?_,g,by simp only [rel]; exact ⟨_,Mp.ext_same _ _ _ _,rfl⟩⟩
 simp [Instr.makeMap]
theorem zma {a c:Nat} {s:Nat} {y:Nat × Nat} (hac:a≤c):rel (ρ.ext n (s,0) y) (.sl n 0 a c true) (.slice (some ⟨s,0,none⟩) a c):=by
 simp only [rel]
 exact ⟨s,0,0,c,Mp.ext_same _ _ _ _,rfl,hac,Nat.le_refl _,fun _=>rfl,.inl rfl,fun h=>by cases h⟩
theorem zxc {t et:TypeId} {ei:TypeInfo} {ed:TypeDesc} {z:Value} {l:AV} {x y:AV} {rx ry:Value} (hx:rel ρ x rx) (hy:rel ρ y ry) (ht:P.underlying t=some (.slice et)) (hei:P.info? et=some ei) (hz:ei.zero=some z)
  (hl:relL ρ l z.cells.toList) (ho:okCs l=true) (hls:lenC l=ei.size) (e:zm6 ei.bytes (fun c=>.cells (c * ei.size) ei.size (zfw l ei.size c)) x y h n k=rr):Val P (Instr.makeSlice t rx ry) ρ h n w k rr:=by
 obtain ⟨a,c,rfl,rfl,e1⟩:=zce e hne
 obtain ⟨h1,e2⟩:=zab e1 hne
 obtain ⟨h2,e3⟩:=zab e2 hne
 obtain ⟨h3,e4⟩:=zab e3 hne
 rw [Nat.ble_eq] at h1 h3
 rw [Nat.blt_eq] at h2
 have ha:=zeg hi hne hx (by simp only [hiN]; omega)
 have hc:=zeg hi hne hy (by simp only [hiN]; omega)
 obtain ⟨j1,hj1,rfl⟩:=ha
 obtain ⟨j2,hj2,rfl⟩:=hc
 simp only [zf8] at e4
 obtain ⟨e5,g⟩:=zbp hi hne (o:=.cells ((Array.range (c * ei.size)).map (z.cells[· % z.cells.size]!)) et) e4 (fun hf=>zfr hl ho hls (by simpa [fitO] using hf))
 refine ⟨_,_,_,_,_,_,e5,?_,g,zma hi hne h1⟩
 exact zhd ht hei hz h1 h2 h3 (by rw [← hls,zbz (zal hl) hl]; simp)
theorem zxa {t et:TypeId} {ei:TypeInfo} {x y:AV} {rx ry:Value} (hx:rel ρ x rx) (hy:rel ρ y ry) (ht:P.underlying t=some (.slice et)) (hei:P.info? et=some ei) (hz:ei.zero=some (.int .u8 0))
  (hs:ei.size=1) (hb:ei.bytes=1) (e:zm6 1 (fun c=>.bytes c 0) x y h n k=rr):Val P (Instr.makeSlice t rx ry) ρ h n w k rr:=by
 obtain ⟨a,c,rfl,rfl,e1⟩:=zce e hne
 obtain ⟨h1,e2⟩:=zab e1 hne
 obtain ⟨h2,e3⟩:=zab e2 hne
 obtain ⟨h3,e4⟩:=zab e3 hne
 rw [Nat.ble_eq] at h1 h3
 rw [Nat.blt_eq] at h2
 obtain ⟨j1,hj1,rfl⟩:=zeg hi hne hx (by simp only [hiN]; omega)
 obtain ⟨j2,hj2,rfl⟩:=zeg hi hne hy (by simp only [hiN]; omega)
 simp only [zf8] at e4
 obtain ⟨e5,g⟩:=zbp hi hne (o:=.cells ((Array.range (c * 1)).map ((Value.int .u8 0).cells[· % (Value.int .u8 0).cells.size]!)) et) e4 (fun hf=>zk6 rfl (by simpa [fitO] using hf))
 refine ⟨_,_,_,_,_,_,e5,?_,g,zma hi hne h1⟩
 have:=zhd (P:=P) (w:=w) (j1:=j1) (j2:=j2) ht hei hz h1 h2 (by rw [hb]; exact h3) (by rw [hs]; rfl)
 rw [hs] at this
 exact this
theorem zpg {s d et:TypeId} {x:AV} {rx:Value} (hx:rel ρ x rx) (hs:P.underlying s=some .string) (hd:P.underlying d=some (.slice et)) (he:P.underlying et=some (.int .u8)) (e:zmd x h n k=rr):Val P (convert s d rx) ρ h n w k rr:=by
 cases x<;>try exact absurd e.symm hne
 rename_i m y
 simp only [rel] at hx
 obtain ⟨sb,rfl,hp⟩:=hx
 simp only [zmd] at e
 generalize hcap:(Question.appendCap sb.size 0 et).cut (w.tape w.drawn (.appendCap sb.size 0 et))=cap
 have hge:sb.size≤cap:=by rw [← hcap]; simp only [Question.cut]; omega
 have hsz:sb.size=m:=by rw [Lib.size_eq,hp.1]
 have hcell:∀ i (hi:i < sb.data.toList.length),(sb.data.map (fun b=>Value.int .u8 (b.toNat:Int)) ++ Array.replicate (cap - sb.size) (Value.int .u8 0))[i]?=some (.int .u8 ((sb.data.toList[i]'hi).toNat:Int)):=fun i hi=>by
  rw [Array.getElem?_append_left (by simpa using hi)]
  have hi':i < sb.data.size:=by simpa using hi
  rw [Array.getElem?_map,Array.getElem?_eq_getElem hi']
  simp
 have htot:(sb.data.map (fun b=>Value.int .u8 (b.toNat:Int)) ++ Array.replicate (cap - sb.size) (Value.int .u8 0)).size=cap:=by
  have:sb.data.size=sb.size:=rfl
  simp; omega
 obtain ⟨h1,h2,h3⟩:=zdy e hne
 have hpush:Goes ρ h n w (ρ.ext n (w.heap.size,0) (1,cap)) (setO h n (.bytes m y)) (n + 1)
   ({ w with drawn:=w.drawn + 1,heap:=w.heap.push (.cells (sb.data.map (fun b=>Value.int .u8 (b.toNat:Int)) ++ Array.replicate (cap - sb.size) (Value.int .u8 0)) et (cap,cap + 1)) }):=
  hi.push h1 rfl (by have:=zo6 (ρ:=ρ) (e:=et) (fz:=(cap,cap + 1)) hp (by simpa [fitO] using h2) hcell (.inr (by rw [htot]; exact Nat.le_refl _)); rwa [htot] at this)
 refine ⟨_,_,_,_,_,.slice (some ⟨w.heap.size,0,none⟩) m cap,h3,?_,hpush,?_⟩
 ·have hconv:(convert s d (.string sb)).run P w=(Conv.stringToBytes et sb).run P w:=by
   simp only [convert,Sem.run_bind,zac hs,zac hd,zac he,Result.andThen_ok]
  rw [hconv,← hsz]
  exact znw (by rw [hcap]) htot
 ·simp only [rel]
  refine ⟨w.heap.size,0,0,cap,Mp.ext_same _ _ _ _,rfl,Nat.le_refl _,by omega,?_,.inl rfl,fun _=>.inr ?_⟩
  ·intro h; cases h
  ·rw [Mp.ext_sameG]; simp
end
end
end
end Go.VE
