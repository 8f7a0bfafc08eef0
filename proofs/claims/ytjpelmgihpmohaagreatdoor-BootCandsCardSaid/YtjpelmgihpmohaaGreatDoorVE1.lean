/- The evaluator, part 1: definitions and their laws, over any program. No condition. -/
import Derived.Calls
set_option linter.all false
namespace Go.VE
noncomputable section
def br {β:Type} (c:Bool) (a b:β):β:=@Bool.rec (fun _=>β) b a c
abbrev brW {β:Type} (c:Bool) (a b:β):β:=@Bool.rec (fun _=>β) b a c
def hi0:Bool:=true
def hi1:Bool:=hi0
def hi2:Bool:=hi1
def hi3:Bool:=hi2
def hi4:Bool:=hi3
def hi5:Bool:=hi4
def hi6:Bool:=hi5
def hi7:Bool:=hi6
def hi8:Bool:=hi7
def hi9:Bool:=hi8
def hi10:Bool:=hi9
def hi11:Bool:=hi10
def hi12:Bool:=hi11
def hi13:Bool:=hi12
def hi14:Bool:=hi13
def hi15:Bool:=hi14
def hi16:Bool:=hi15
def hi17:Bool:=hi16
def hi18:Bool:=hi17
def hi19:Bool:=hi18
def hi20:Bool:=hi19
def hi21:Bool:=hi20
def hi22:Bool:=hi21
def hi23:Bool:=hi22
def hi24:Bool:=hi23
def hi25:Bool:=hi24
def hi26:Bool:=hi25
def hi27:Bool:=hi26
def hi28:Bool:=hi27
def hi29:Bool:=hi28
def hi30:Bool:=hi29
def hi31:Bool:=hi30
def frc {β:Type} (x:Nat) (k:Nat→β):β:=@Nat.rec (fun _=>β) (k 0) (fun m _=>k (Nat.succ m)) x
inductive T (α:Type) where
 | nil
 | node (l:T α) (v:Option α) (r:T α)
 deriving Inhabited
def T.get {α:Type} (t:T α):Nat→Option α:=
 @T.rec α (fun _=>Nat→Option α) (fun _=>none)
  (fun _ v _ gl gr k=>@Bool.rec (fun _=>Option α) (@Bool.rec (fun _=>Option α) (gr (Nat.div k 2)) (gl (Nat.div k 2)) (Nat.beq (Nat.mod k 2) 0)) v (Nat.beq k 1)) t
def T.one {α:Type} (v:Option α) (f:Nat):Nat→T α:=
 @Nat.rec (fun _=>Nat→T α) (fun _=>.nil)
  (fun _ g k=>@Bool.rec (fun _=>T α) (@Bool.rec (fun _=>T α) (.node .nil none (g (Nat.div k 2))) (.node (g (Nat.div k 2)) none .nil) (Nat.beq (Nat.mod k 2) 0)) (.node .nil v .nil) (Nat.beq k 1)) f
def T.put {α:Type} (v:Option α) (t:T α):Nat→T α:=
 @T.rec α (fun _=>Nat→T α) (fun k=>T.one v 64 k)
  (fun l w r gl gr k=>@Bool.rec (fun _=>T α) (@Bool.rec (fun _=>T α) (.node l w (gr (Nat.div k 2))) (.node (gl (Nat.div k 2)) w r) (Nat.beq (Nat.mod k 2) 0)) (.node l v r) (Nat.beq k 1)) t
inductive AV where
 | undef
 | int (k u:Nat)
 | bool (b:Bool)
 | ptr (b off:Nat)
 | sl (b off len cap:Nat) (ex:Bool)
 | str (n x:Nat)
 | iface (t:Nat) (v:AV)
 | nilp | nils | nili | nilm | nilf
 | map (b:Nat)
 | func (f:Nat) (caps:AV)
 | agg (l:AV)
 | tup (l:AV)
 | nl | cons (a l:AV)
 | yld (b:Nat)
 | ukn (k m a:Nat)
 deriving Inhabited
inductive AO where
 | cells (n es:Nat) (t:T AV)
 | bytes (n x:Nat)
 | map (l:List (AV × AV))
 | var (ty n:Nat) (t:T AV)
 | rowb (ty m n x:Nat)
 deriving Inhabited
def okC:AV→Bool
 | .undef=>false | .agg _=>false | .tup _=>false | .nl=>false | .cons _ _=>false | .yld _=>false
 | _=>true
def okCs:AV→Bool
 | .cons v l=>br (okC v) (okCs l) false
 | .nl=>true
 | _=>false
def fitO:AO→Bool
 | .cells n _ _=>Nat.ble n 140737488355328
 | .bytes n _=>Nat.ble n 140737488355328
 | .map _=>true
 | .var _ n _=>Nat.ble n 140737488355328
 | .rowb _ _ n _=>Nat.ble n 140737488355328
def KG:Nat:=10
inductive Q4 (α:Type) where
 | mk (a b c d:α)
def Q4.s0 {α:Type} (a _ _ _:α):α:=a
def Q4.s1 {α:Type} (_ b _ _:α):α:=b
def Q4.s2 {α:Type} (_ _ c _:α):α:=c
def Q4.s3 {α:Type} (_ _ _ d:α):α:=d
def Q4.u0 {α:Type} (f:α→α) (a b c d:α):Q4 α:=.mk (f a) b c d
def Q4.u1 {α:Type} (f:α→α) (a b c d:α):Q4 α:=.mk a (f b) c d
def Q4.u2 {α:Type} (f:α→α) (a b c d:α):Q4 α:=.mk a b (f c) d
def Q4.u3 {α:Type} (f:α→α) (a b c d:α):Q4 α:=.mk a b c (f d)
def Q4.sel {α:Type} (k m1 m2:Nat) (t:Q4 α):α:=
 @Q4.rec α (fun _=>α) (@Bool.rec (fun _=>α→α→α→α→α) (@Bool.rec (fun _=>α→α→α→α→α) Q4.s3 Q4.s1 (Nat.beq (Nat.land k m2) 0)) (@Bool.rec (fun _=>α→α→α→α→α) Q4.s2 Q4.s0 (Nat.beq (Nat.land k m2) 0)) (Nat.beq (Nat.land k m1) 0)) t
def Q4.upd {α:Type} (k m1 m2:Nat) (f:α→α) (t:Q4 α):Q4 α:=
 @Q4.rec α (fun _=>Q4 α) (@Bool.rec (fun _=>(α→α)→α→α→α→α→Q4 α) (@Bool.rec (fun _=>(α→α)→α→α→α→α→Q4 α) Q4.u3 Q4.u1 (Nat.beq (Nat.land k m2) 0)) (@Bool.rec (fun _=>(α→α)→α→α→α→α→Q4 α) Q4.u2 Q4.u0 (Nat.beq (Nat.land k m2) 0)) (Nat.beq (Nat.land k m1) 0) f) t
abbrev M1:=Q4 (Option AO)
abbrev M2:=Q4 M1
abbrev M3:=Q4 M2
abbrev M4:=Q4 M3
abbrev M5:=Q4 M4
abbrev M6:=Q4 M5
abbrev M7:=Q4 M6
abbrev M8:=Q4 M7
def nil1:M1:=.mk none none none none
def nil2:M2:=.mk nil1 nil1 nil1 nil1
def nil3:M3:=.mk nil2 nil2 nil2 nil2
def nil4:M4:=.mk nil3 nil3 nil3 nil3
def nil5:M5:=.mk nil4 nil4 nil4 nil4
def nil6:M6:=.mk nil5 nil5 nil5 nil5
def nil7:M7:=.mk nil6 nil6 nil6 nil6
def nil8:M8:=.mk nil7 nil7 nil7 nil7
inductive Mem where
 | mk (lo:M8) (hi:T AO)
abbrev H:=Mem
def Mem.nil:Mem:=.mk nil8 .nil
instance:Inhabited Mem:=⟨.nil⟩
def z02 (b:Nat) (t:M8):Option AO:=Q4.sel b 1 2 (Q4.sel b 4 8 (Q4.sel b 16 32 (Q4.sel b 64 128 (Q4.sel b 256 512 (Q4.sel b 1024 2048 (Q4.sel b 4096 8192 (Q4.sel b 16384 32768 t)))))))
def z07 (b:Nat) (x:Option AO) (t:M8):M8:=Q4.upd b 16384 32768 (Q4.upd b 4096 8192 (Q4.upd b 1024 2048 (Q4.upd b 256 512 (Q4.upd b 64 128 (Q4.upd b 16 32 (Q4.upd b 4 8 (Q4.upd b 1 2 fun _=>x))))))) t
inductive Lf where
 | mk (v0 v1 v2 v3 v4 v5 v6 v7 v8 v9 v10 v11 v12 v13 v14 v15:AV)
inductive Ev where
 | mk (l0 l1 l2 l3 l4 l5 l6 l7 l8 l9 l10 l11 l12 l13 l14 l15:Lf)
def Lf.nil:Lf:=.mk .undef .undef .undef .undef .undef .undef .undef .undef .undef .undef .undef .undef .undef .undef .undef .undef
def Ev.nil:Ev:=.mk .nil .nil .nil .nil .nil .nil .nil .nil .nil .nil .nil .nil .nil .nil .nil .nil
instance:Inhabited Ev:=⟨Ev.nil⟩
abbrev F16 (α β:Type):=α→α→α→α→α→α→α→α→α→α→α→α→α→α→α→α→β
def Lf.at (l:Lf) (i:Nat):AV:=@Lf.rec (fun _=>AV) (@br (F16 AV AV) (Nat.beq i 0) (fun v _ _ _ _ _ _ _ _ _ _ _ _ _ _ _=>v) (br (Nat.beq i 1) (fun _ v _ _ _ _ _ _ _ _ _ _ _ _ _ _=>v) (br (Nat.beq i 2) (fun _ _ v _ _ _ _ _ _ _ _ _ _ _ _ _=>v) (br (Nat.beq i 3) (fun _ _ _ v _ _ _ _ _ _ _ _ _ _ _ _=>v) (br (Nat.beq i 4) (fun _ _ _ _ v _ _ _ _ _ _ _ _ _ _ _=>v) (br (Nat.beq i 5) (fun _ _ _ _ _ v _ _ _ _ _ _ _ _ _ _=>v) (br (Nat.beq i 6) (fun _ _ _ _ _ _ v _ _ _ _ _ _ _ _ _=>v) (br (Nat.beq i 7) (fun _ _ _ _ _ _ _ v _ _ _ _ _ _ _ _=>v) (br (Nat.beq i 8) (fun _ _ _ _ _ _ _ _ v _ _ _ _ _ _ _=>v) (br (Nat.beq i 9) (fun _ _ _ _ _ _ _ _ _ v _ _ _ _ _ _=>v) (br (Nat.beq i 10) (fun _ _ _ _ _ _ _ _ _ _ v _ _ _ _ _=>v) (br (Nat.beq i 11) (fun _ _ _ _ _ _ _ _ _ _ _ v _ _ _ _=>v) (br (Nat.beq i 12) (fun _ _ _ _ _ _ _ _ _ _ _ _ v _ _ _=>v) (br (Nat.beq i 13) (fun _ _ _ _ _ _ _ _ _ _ _ _ _ v _ _=>v) (br (Nat.beq i 14) (fun _ _ _ _ _ _ _ _ _ _ _ _ _ _ v _=>v) (fun _ _ _ _ _ _ _ _ _ _ _ _ _ _ _ v=>v)))))))))))))))) l
def Lf.up (l:Lf) (i:Nat) (x:AV):Lf:=@Lf.rec (fun _=>Lf) ((@br ((AV)→F16 AV Lf) (Nat.beq i 0) (fun x _ v1 v2 v3 v4 v5 v6 v7 v8 v9 v10 v11 v12 v13 v14 v15=>Lf.mk x v1 v2 v3 v4 v5 v6 v7 v8 v9 v10 v11 v12 v13 v14 v15) (br (Nat.beq i 1) (fun x v0 _ v2 v3 v4 v5 v6 v7 v8 v9 v10 v11 v12 v13 v14 v15=>Lf.mk v0 x v2 v3 v4 v5 v6 v7 v8 v9 v10 v11 v12 v13 v14 v15) (br (Nat.beq i 2) (fun x v0 v1 _ v3 v4 v5 v6 v7 v8 v9 v10 v11 v12 v13 v14 v15=>Lf.mk v0 v1 x v3 v4 v5 v6 v7 v8 v9 v10 v11 v12 v13 v14 v15) (br (Nat.beq i 3) (fun x v0 v1 v2 _ v4 v5 v6 v7 v8 v9 v10 v11 v12 v13 v14 v15=>Lf.mk v0 v1 v2 x v4 v5 v6 v7 v8 v9 v10 v11 v12 v13 v14 v15) (br (Nat.beq i 4) (fun x v0 v1 v2 v3 _ v5 v6 v7 v8 v9 v10 v11 v12 v13 v14 v15=>Lf.mk v0 v1 v2 v3 x v5 v6 v7 v8 v9 v10 v11 v12 v13 v14 v15) (br (Nat.beq i 5) (fun x v0 v1 v2 v3 v4 _ v6 v7 v8 v9 v10 v11 v12 v13 v14 v15=>Lf.mk v0 v1 v2 v3 v4 x v6 v7 v8 v9 v10 v11 v12 v13 v14 v15) (br (Nat.beq i 6) (fun x v0 v1 v2 v3 v4 v5 _ v7 v8 v9 v10 v11 v12 v13 v14 v15=>Lf.mk v0 v1 v2 v3 v4 v5 x v7 v8 v9 v10 v11 v12 v13 v14 v15) (br (Nat.beq i 7) (fun x v0 v1 v2 v3 v4 v5 v6 _ v8 v9 v10 v11 v12 v13 v14 v15=>Lf.mk v0 v1 v2 v3 v4 v5 v6 x v8 v9 v10 v11 v12 v13 v14 v15) (br (Nat.beq i 8) (fun x v0 v1 v2 v3 v4 v5 v6 v7 _ v9 v10 v11 v12 v13 v14 v15=>Lf.mk v0 v1 v2 v3 v4 v5 v6 v7 x v9 v10 v11 v12 v13 v14 v15) (br (Nat.beq i 9) (fun x v0 v1 v2 v3 v4 v5 v6 v7 v8 _ v10 v11 v12 v13 v14 v15=>Lf.mk v0 v1 v2 v3 v4 v5 v6 v7 v8 x v10 v11 v12 v13 v14 v15) (br (Nat.beq i 10) (fun x v0 v1 v2 v3 v4 v5 v6 v7 v8 v9 _ v11 v12 v13 v14 v15=>Lf.mk v0 v1 v2 v3 v4 v5 v6 v7 v8 v9 x v11 v12 v13 v14 v15) (br (Nat.beq i 11) (fun x v0 v1 v2 v3 v4 v5 v6 v7 v8 v9 v10 _ v12 v13 v14 v15=>Lf.mk v0 v1 v2 v3 v4 v5 v6 v7 v8 v9 v10 x v12 v13 v14 v15) (br (Nat.beq i 12) (fun x v0 v1 v2 v3 v4 v5 v6 v7 v8 v9 v10 v11 _ v13 v14 v15=>Lf.mk v0 v1 v2 v3 v4 v5 v6 v7 v8 v9 v10 v11 x v13 v14 v15) (br (Nat.beq i 13) (fun x v0 v1 v2 v3 v4 v5 v6 v7 v8 v9 v10 v11 v12 _ v14 v15=>Lf.mk v0 v1 v2 v3 v4 v5 v6 v7 v8 v9 v10 v11 v12 x v14 v15) (br (Nat.beq i 14) (fun x v0 v1 v2 v3 v4 v5 v6 v7 v8 v9 v10 v11 v12 v13 _ v15=>Lf.mk v0 v1 v2 v3 v4 v5 v6 v7 v8 v9 v10 v11 v12 v13 x v15) (fun x v0 v1 v2 v3 v4 v5 v6 v7 v8 v9 v10 v11 v12 v13 v14 _=>Lf.mk v0 v1 v2 v3 v4 v5 v6 v7 v8 v9 v10 v11 v12 v13 v14 x)))))))))))))))) x) l
def Ev.at (e:Ev) (i:Nat):Lf:=@Ev.rec (fun _=>Lf) (@br (F16 Lf Lf) (Nat.beq i 0) (fun l _ _ _ _ _ _ _ _ _ _ _ _ _ _ _=>l) (br (Nat.beq i 1) (fun _ l _ _ _ _ _ _ _ _ _ _ _ _ _ _=>l) (br (Nat.beq i 2) (fun _ _ l _ _ _ _ _ _ _ _ _ _ _ _ _=>l) (br (Nat.beq i 3) (fun _ _ _ l _ _ _ _ _ _ _ _ _ _ _ _=>l) (br (Nat.beq i 4) (fun _ _ _ _ l _ _ _ _ _ _ _ _ _ _ _=>l) (br (Nat.beq i 5) (fun _ _ _ _ _ l _ _ _ _ _ _ _ _ _ _=>l) (br (Nat.beq i 6) (fun _ _ _ _ _ _ l _ _ _ _ _ _ _ _ _=>l) (br (Nat.beq i 7) (fun _ _ _ _ _ _ _ l _ _ _ _ _ _ _ _=>l) (br (Nat.beq i 8) (fun _ _ _ _ _ _ _ _ l _ _ _ _ _ _ _=>l) (br (Nat.beq i 9) (fun _ _ _ _ _ _ _ _ _ l _ _ _ _ _ _=>l) (br (Nat.beq i 10) (fun _ _ _ _ _ _ _ _ _ _ l _ _ _ _ _=>l) (br (Nat.beq i 11) (fun _ _ _ _ _ _ _ _ _ _ _ l _ _ _ _=>l) (br (Nat.beq i 12) (fun _ _ _ _ _ _ _ _ _ _ _ _ l _ _ _=>l) (br (Nat.beq i 13) (fun _ _ _ _ _ _ _ _ _ _ _ _ _ l _ _=>l) (br (Nat.beq i 14) (fun _ _ _ _ _ _ _ _ _ _ _ _ _ _ l _=>l) (fun _ _ _ _ _ _ _ _ _ _ _ _ _ _ _ l=>l)))))))))))))))) e
def Ev.up (e:Ev) (i:Nat) (x:Lf→Lf):Ev:=@Ev.rec (fun _=>Ev) ((@br ((Lf→Lf)→F16 Lf Ev) (Nat.beq i 0) (fun x l0 l1 l2 l3 l4 l5 l6 l7 l8 l9 l10 l11 l12 l13 l14 l15=>Ev.mk (x l0) l1 l2 l3 l4 l5 l6 l7 l8 l9 l10 l11 l12 l13 l14 l15) (br (Nat.beq i 1) (fun x l0 l1 l2 l3 l4 l5 l6 l7 l8 l9 l10 l11 l12 l13 l14 l15=>Ev.mk l0 (x l1) l2 l3 l4 l5 l6 l7 l8 l9 l10 l11 l12 l13 l14 l15) (br (Nat.beq i 2) (fun x l0 l1 l2 l3 l4 l5 l6 l7 l8 l9 l10 l11 l12 l13 l14 l15=>Ev.mk l0 l1 (x l2) l3 l4 l5 l6 l7 l8 l9 l10 l11 l12 l13 l14 l15) (br (Nat.beq i 3) (fun x l0 l1 l2 l3 l4 l5 l6 l7 l8 l9 l10 l11 l12 l13 l14 l15=>Ev.mk l0 l1 l2 (x l3) l4 l5 l6 l7 l8 l9 l10 l11 l12 l13 l14 l15) (br (Nat.beq i 4) (fun x l0 l1 l2 l3 l4 l5 l6 l7 l8 l9 l10 l11 l12 l13 l14 l15=>Ev.mk l0 l1 l2 l3 (x l4) l5 l6 l7 l8 l9 l10 l11 l12 l13 l14 l15) (br (Nat.beq i 5) (fun x l0 l1 l2 l3 l4 l5 l6 l7 l8 l9 l10 l11 l12 l13 l14 l15=>Ev.mk l0 l1 l2 l3 l4 (x l5) l6 l7 l8 l9 l10 l11 l12 l13 l14 l15) (br (Nat.beq i 6) (fun x l0 l1 l2 l3 l4 l5 l6 l7 l8 l9 l10 l11 l12 l13 l14 l15=>Ev.mk l0 l1 l2 l3 l4 l5 (x l6) l7 l8 l9 l10 l11 l12 l13 l14 l15) (br (Nat.beq i 7) (fun x l0 l1 l2 l3 l4 l5 l6 l7 l8 l9 l10 l11 l12 l13 l14 l15=>Ev.mk l0 l1 l2 l3 l4 l5 l6 (x l7) l8 l9 l10 l11 l12 l13 l14 l15) (br (Nat.beq i 8) (fun x l0 l1 l2 l3 l4 l5 l6 l7 l8 l9 l10 l11 l12 l13 l14 l15=>Ev.mk l0 l1 l2 l3 l4 l5 l6 l7 (x l8) l9 l10 l11 l12 l13 l14 l15) (br (Nat.beq i 9) (fun x l0 l1 l2 l3 l4 l5 l6 l7 l8 l9 l10 l11 l12 l13 l14 l15=>Ev.mk l0 l1 l2 l3 l4 l5 l6 l7 l8 (x l9) l10 l11 l12 l13 l14 l15) (br (Nat.beq i 10) (fun x l0 l1 l2 l3 l4 l5 l6 l7 l8 l9 l10 l11 l12 l13 l14 l15=>Ev.mk l0 l1 l2 l3 l4 l5 l6 l7 l8 l9 (x l10) l11 l12 l13 l14 l15) (br (Nat.beq i 11) (fun x l0 l1 l2 l3 l4 l5 l6 l7 l8 l9 l10 l11 l12 l13 l14 l15=>Ev.mk l0 l1 l2 l3 l4 l5 l6 l7 l8 l9 l10 (x l11) l12 l13 l14 l15) (br (Nat.beq i 12) (fun x l0 l1 l2 l3 l4 l5 l6 l7 l8 l9 l10 l11 l12 l13 l14 l15=>Ev.mk l0 l1 l2 l3 l4 l5 l6 l7 l8 l9 l10 l11 (x l12) l13 l14 l15) (br (Nat.beq i 13) (fun x l0 l1 l2 l3 l4 l5 l6 l7 l8 l9 l10 l11 l12 l13 l14 l15=>Ev.mk l0 l1 l2 l3 l4 l5 l6 l7 l8 l9 l10 l11 l12 (x l13) l14 l15) (br (Nat.beq i 14) (fun x l0 l1 l2 l3 l4 l5 l6 l7 l8 l9 l10 l11 l12 l13 l14 l15=>Ev.mk l0 l1 l2 l3 l4 l5 l6 l7 l8 l9 l10 l11 l12 l13 (x l14) l15) (fun x l0 l1 l2 l3 l4 l5 l6 l7 l8 l9 l10 l11 l12 l13 l14 l15=>Ev.mk l0 l1 l2 l3 l4 l5 l6 l7 l8 l9 l10 l11 l12 l13 l14 (x l15))))))))))))))))) x) e
abbrev Env:=Ev
def eAt (k:Nat) (e:Env):AV:=br (Nat.blt k 256) ((e.at (Nat.div k 16)).at (Nat.mod k 16)) .undef
def ePut (v:AV) (k:Nat) (e:Env):Env:=e.up (Nat.div k 16) fun l=>l.up (Nat.mod k 16) v
theorem zsf (k:Nat) (e:Env):eAt k e=br (Nat.blt k 256) ((e.at (k / 16)).at (k % 16)) .undef:=rfl
theorem zve (v:AV) (k:Nat) (e:Env):ePut v k e=e.up (k / 16) fun l=>l.up (k % 16) v:=rfl
inductive RR where
 | fail
 | nrm (e:Env) (h:H) (n:Nat)
 | ext (id:Nat) (e:Env) (h:H) (n:Nat)
 | ret (e:Env) (h:H) (n:Nat)
 | fin (v:AV) (h:H) (n:Nat)
 deriving Inhabited
abbrev K:=AV→H→Nat→RR
def asInt (v:AV) (f:Nat→Nat→RR):RR:=
 @AV.rec (fun _=>RR) .fail f (fun _=>.fail) (fun _ _=>.fail) (fun _ _ _ _ _=>.fail) (fun _ _=>.fail) (fun _ _ _=>.fail) .fail .fail .fail .fail .fail (fun _=>.fail) (fun _ _ _=>.fail) (fun _ _=>.fail) (fun _ _=>.fail) .fail (fun _ _ _ _=>.fail) (fun _=>.fail) (fun _ _ _=>.fail) v
def asBool (v:AV) (f:Bool→RR):RR:=
 @AV.rec (fun _=>RR) .fail (fun _ _=>.fail) f (fun _ _=>.fail) (fun _ _ _ _ _=>.fail) (fun _ _=>.fail) (fun _ _ _=>.fail) .fail .fail .fail .fail .fail (fun _=>.fail) (fun _ _ _=>.fail) (fun _ _=>.fail) (fun _ _=>.fail) .fail (fun _ _ _ _=>.fail) (fun _=>.fail) (fun _ _ _=>.fail) v
def zbx (v:AV) (f:Nat→Nat→RR):RR:=
 @AV.rec (fun _=>RR) .fail (fun _ _=>.fail) (fun _=>.fail) f (fun _ _ _ _ _=>.fail) (fun _ _=>.fail) (fun _ _ _=>.fail) .fail .fail .fail .fail .fail (fun _=>.fail) (fun _ _ _=>.fail) (fun _ _=>.fail) (fun _ _=>.fail) .fail (fun _ _ _ _=>.fail) (fun _=>.fail) (fun _ _ _=>.fail) v
def hiN:Nat→Nat
 | 0=>128 | 1=>32768 | 2=>2147483648 | 3=>9223372036854775808
 | 4=>256 | 5=>65536 | 6=>4294967296 | _=>18446744073709551616
def moN:Nat→Nat
 | 0=>256 | 1=>65536 | 2=>4294967296 | 3=>18446744073709551616
 | 4=>256 | 5=>65536 | 6=>4294967296 | _=>18446744073709551616
def biN:Nat→Nat
 | 0=>8 | 1=>16 | 2=>32 | 3=>64
 | 4=>8 | 5=>16 | 6=>32 | _=>64
def zad:IntKind→Nat
 | .i8=>0 | .i16=>1 | .i32=>2 | .i64=>3 | .u8=>4 | .u16=>5 | .u32=>6 | .u64=>7
def zar (n x i:Nat):Nat:=Nat.mod (Nat.shiftRight x (Nat.mul 8 (Nat.sub (Nat.sub n 1) i))) 256
def cutB (n x l h:Nat):Nat:=Nat.mod (Nat.shiftRight x (Nat.mul 8 (Nat.sub n h))) (Nat.pow 2 (Nat.mul 8 (Nat.sub h l)))
def catB (x m y:Nat):Nat:=Nat.add (Nat.shiftLeft x (Nat.mul 8 m)) y
theorem zq1 (n x i:Nat):zar n x i=(x >>> (8 * (n - 1 - i))) % 256:=rfl
theorem zg3 (n x l h:Nat):cutB n x l h=(x >>> (8 * (n - h))) % (2 ^ (8 * (h - l))):=rfl
theorem zln (x m y:Nat):catB x m y=(x <<< (8 * m)) + y:=rfl
def layB (n x off m y:Nat):Nat:=catB (catB (cutB n x 0 off) m y) (n - off - m) (cutB n x (off + m) n)
def ltB (n x m y:Nat):Bool:=
 br (Nat.blt (x <<< (8 * (Nat.max n m - n))) (y <<< (8 * (Nat.max n m - m)))) true
  (br (Nat.beq (x <<< (8 * (Nat.max n m - n))) (y <<< (8 * (Nat.max n m - m)))) (Nat.blt n m) false)
abbrev Sx:=List AV→Env→AV
def nthD (n:Nat):List AV→AV:=
 @Nat.rec (fun _=>List AV→AV) (fun l=>@List.rec AV (fun _=>AV) .undef (fun v _ _=>v) l)
  (fun _ g l=>@List.rec AV (fun _=>AV) .undef (fun _ r _=>g r) l) n
def orU (o:Option AV):AV:=@Option.rec AV (fun _=>AV) .undef (fun v=>v) o
def sL (k:Nat):Sx:=fun ls _=>nthD k ls
def sT (k:Nat):Sx:=fun _ e=>eAt k e
def sC (v:AV):Sx:=fun _ _=>v
def evL (l:List Sx) (ls:List AV) (e:Env):List AV:=
 match l with
 | []=>[]
 | s :: l=>s ls e :: evL l ls e
def evC (l:List Sx) (ls:List AV) (e:Env):AV:=
 match l with
 | []=>.nl
 | s :: l=>.cons (s ls e) (evC l ls e)
def zav:AV→AV
 | .agg l=>l
 | v=>.cons v .nl
def lenC:AV→Nat
 | .cons _ l=>lenC l + 1
 | _=>0
def zd2:AV→Nat→T AV→T AV
 | .cons v l,i,t=>zd2 l (i + 1) (t.put (some v) (i + 1))
 | _,_,t=>t
def toL:AV→List AV
 | .cons v l=>v :: toL l
 | _=>[]
def ofL:List AV→AV
 | []=>.nl
 | v :: l=>.cons v (ofL l)
def catC:AV→AV→AV
 | .cons v l,r=>.cons v (catC l r)
 | _,r=>r
def zke:Nat→AV→AV
 | 0,l=>l
 | n + 1,.cons _ l=>zke n l
 | _ + 1,_=>.nl
def zj5:Nat→AV→AV
 | 0,_=>.nl
 | n + 1,.cons a l=>.cons a (zj5 n l)
 | _ + 1,_=>.nl
def nthC:Nat→AV→Option AV
 | 0,.cons a _=>some a
 | n + 1,.cons _ l=>nthC n l
 | _,_=>none
def zo4 (l:AV) (off:Nat) (vs:AV):AV:=catC (zj5 off l) (catC vs (zke (off + lenC vs) l))
def zag (t:T AV) (i:Nat):AV:=orU (t.get (Nat.succ i))
def zb7 (t:T AV):Nat→Nat→AV
 | _,0=>.nl
 | i,n + 1=>.cons (zag t i) (zb7 t (i + 1) n)
def getO (h:H) (b:Nat):Option AO:=@Mem.rec (fun _=>Option AO) (fun lo hi=>br (Nat.ble b 65535) (z02 b lo) (hi.get (Nat.succ b))) h
def putM (h:H) (b:Nat) (x:Option AO):H:=@Mem.rec (fun _=>H) (fun lo hi=>br (Nat.ble b 65535) (.mk (z07 b x lo) hi) (.mk lo (hi.put x (Nat.succ b)))) h
def setO (h:H) (b:Nat) (o:AO):H:=putM h b (some o)
def zey (h:H) (b:Nat):H:=putM h b none
def alloc (o:AO) (h:H) (n:Nat) (f:H→Nat→RR):RR:=
 br (Nat.blt n 18446744073709551615) (br (fitO o) (frc (n + 1) fun m=>f (setO h n o) m) .fail) .fail
inductive Seg where
 | bs (n x:Nat)
 | vs (n:Nat) (off:Nat) (t:T AV)
 deriving Inhabited
def zio (t:T AV):Nat→Nat→T AV→Nat→T AV
 | 0,_,_,_=>t
 | n + 1,i,s,j=>zio (t.put (some (zag s i)) (j + 1)) n (i + 1) s (j + 1)
def segO (size n off:Nat):Option AO→Option Seg
 | some (.cells m _ t)=>br (Nat.ble (off + n * size) m) (some (.vs (n * size) off t)) none
 | some (.bytes m x)=>br (Nat.beq size 1) (br (Nat.ble (off + n) m) (some (.bs n (cutB m x off (off + n)))) none) none
 | _=>none
def zcz (h:H) (size n:Nat):AV→Option Seg
 | .nils=>br (Nat.beq n 0) (some (.vs 0 0 .nil)) none
 | .str m x=>br (Nat.ble n m) (some (.bs n (cutB m x 0 n))) none
 | .sl b off _ _ _=>br (Nat.beq n 0) (some (.vs 0 0 .nil)) (segO size n off (getO h b))
 | _=>none
def ze9 (h:H) (b off:Nat) (s:Seg):Option H:=
 match s with
 | .vs n i s=>br (Nat.beq n 0) (some h) (br (Nat.ble KG b) (match getO h b with
  | some (.cells m es t)=>br (Nat.ble (off + n) m) (some (setO h b (.cells m es (zio t n i s off)))) none
  | _=>none) none)
 | .bs n y=>br (Nat.beq n 0) (some h) (br (Nat.ble KG b) (match getO h b with
  | some (.bytes m x)=>br (Nat.ble (off + n) m) (some (setO h b (.bytes m (layB m x off n y)))) none
  | _=>none) none)
def zdm (es:Nat):Seg→Seg→Option AO
 | .bs n x,.bs m y=>some (.bytes (n + m) (catB x m y))
 | .vs n _ _,.bs m y=>br (Nat.beq n 0) (some (.bytes m y)) none
 | .bs n x,.vs m _ _=>br (Nat.beq m 0) (some (.bytes n x)) none
 | .vs n i t,.vs m j s=>some (.cells (n + m) es (zio (br (Nat.beq i 0) t (zio .nil n i t 0)) m j s n))
def eqI (kd:Nat):AV→AV→Option Bool
 | .int i a,.int j b=>br (Nat.beq i kd) (br (Nat.beq j kd) (some (Nat.beq a b)) none) none
 | _,_=>none
def eqS:AV→AV→Option Bool
 | .str n x,.str m y=>some (br (Nat.beq n m) (Nat.beq x y) false)
 | _,_=>none
def eqB:AV→AV→Option Bool
 | .bool a,.bool b=>some (br a b (!b))
 | _,_=>none
def eqP:AV→AV→Option Bool
 | .nilp,.nilp=>some true | .nilp,.ptr _ _=>some false | .ptr _ _,.nilp=>some false
 | _,_=>none
def eqP2:AV→AV→Option Bool
 | .nilp,.nilp=>some true | .nilp,.ptr _ _=>some false | .ptr _ _,.nilp=>some false
 | .ptr a x,.ptr b y=>br (Nat.beq a b) (some (Nat.beq x y)) none
 | _,_=>none
def eqSl:AV→AV→Option Bool
 | .nils,.nils=>some true | .nils,.sl _ _ _ _ _=>some false | .sl _ _ _ _ _,.nils=>some false
 | _,_=>none
def eqM:AV→AV→Option Bool
 | .nilm,.nilm=>some true | .nilm,.map _=>some false | .map _,.nilm=>some false
 | _,_=>none
def eqF:AV→AV→Option Bool
 | .nilf,.nilf=>some true | .nilf,.func _ _=>some false | .func _ _,.nilf=>some false
 | _,_=>none
def zoj (t:Nat) (x y:AV):Option Bool:=br (Nat.beq t 8) (eqS x y) (br (Nat.beq t 9) (eqB x y) (eqI t x y))
def eqC:List Nat→AV→AV→Option Bool
 | [],.nl,.nl=>some true
 | t :: ts,.cons a l,.cons b m=>match zoj t a b with
  | some true=>eqC ts l m
  | r=>r
 | _,_,_=>none
def eqSt (ts:List Nat):AV→AV→Option Bool
 | .agg l,.agg m=>eqC ts l m
 | _,_=>none
def zin (x:AV):Option Bool:=match x with | .nili=>some true | .iface _ _=>some false | _=>none
def zsh:AV→AV→Option Bool
 | .int i a,.int j b=>br (Nat.beq i j) (some (Nat.beq a b)) none
 | .str n x,.str m y=>some (br (Nat.beq n m) (Nat.beq x y) false)
 | _,_=>none
def zgn (ks:Bool):AV→Bool
 | .int _ _=>!ks
 | .str _ _=>ks
 | _=>false
def zg5 (k:AV):List (AV × AV)→Option (Option AV)
 | []=>some none
 | (a,v) :: l=>match zsh k a with
  | some true=>some (some v)
  | some false=>zg5 k l
  | none=>none
def setK (k v:AV):List (AV × AV)→Option (List (AV × AV))
 | []=>some [(k,v)]
 | (a,w) :: l=>match zsh k a with
  | some true=>some ((k,v) :: l)
  | some false=>match setK k v l with | some r=>some ((a,w) :: r) | none=>none
  | none=>none
def memN (n:Nat):List Nat→Bool
 | []=>false
 | a :: l=>br (Nat.beq n a) true (memN n l)
def zcr (n:Nat):List (Nat × Nat)→Option Nat
 | []=>none
 | (a,b) :: l=>br (Nat.beq n a) (some b) (zcr n l)
def repT (zero:AV) (size:Nat):Nat→Nat→T AV→T AV
 | 0,_,t=>t
 | n + 1,i,t=>repT zero size n (i + size) (zd2 zero i t)
def zfw (zero:AV) (size n:Nat):T AV:=repT zero size n 0 .nil
def zg0 (ls:List AV) (e:Env):List (Nat × Nat × Sx)→AV→Option AV
 | [],l=>some l
 | (off,size,s) :: ps,l=>br (Nat.beq (lenC (zav (s ls e))) size) (br (okCs (zav (s ls e))) (br (Nat.ble (off + size) (lenC l)) (zg0 ls e ps (zo4 l off (zav (s ls e)))) none) none) none
def zic (ls:List AV) (e:Env) (size a:Nat):List (Nat × Sx)→T AV→Option (T AV)
 | [],t=>some t
 | (i,s) :: ps,t=>br (Nat.beq (lenC (zav (s ls e))) size) (br (okCs (zav (s ls e))) (br (Nat.blt i a) (zic ls e size a ps (zd2 (zav (s ls e)) (i * size) t)) none) none) none
def zkn (ls:List AV) (e:Env) (n:Nat):List (Nat × Sx)→Nat→Option Nat
 | [],x=>some x
 | (i,s) :: ps,x=>match s ls e with
  | .int 4 m=>br (Nat.blt i n) (zkn ls e n ps (layB n x i 1 m)) none
  | _=>none
def rdO (i:Nat) (o:Option AO) (h:H) (n:Nat) (k:K):RR:=
 match o with
 | some (.cells m _ t)=>br (Nat.blt i m) (k (zag t i) h n) .fail
 | some (.bytes m x)=>br (Nat.blt i m) (frc (zar m x i) fun c=>k (.int 4 c) h n) .fail
 | some (.var _ m t)=>br (Nat.blt i m) (k (zag t i) h n) .fail
 | _=>.fail
def rdNO (i m:Nat) (o:Option AO) (h:H) (n:Nat) (k:K):RR:=
 match o with
 | some (.cells c _ t)=>br (Nat.ble (i + m) c) (k (.agg (zb7 t i m)) h n) .fail
 | _=>.fail
def wrO' (b i:Nat) (vs:AV) (o:Option AO) (h:H) (n:Nat) (k:K):RR:=
 match o with
 | some (.cells m es t)=>br (Nat.ble (i + lenC vs) m) (k .undef (setO h b (.cells m es (zd2 vs i t))) n) .fail
 | some (.bytes m x)=>(match vs with
  | .cons (.int 4 c) .nl=>br (Nat.blt i m) (frc (layB m x i 1 c) fun y=>k .undef (setO h b (.bytes m y)) n) .fail
  | _=>.fail)
 | some (.var ty m t)=>br (Nat.ble (i + lenC vs) m) (k .undef (setO h b (.var ty m (zd2 vs i t))) n) .fail
 | _=>.fail
def wrO (b i:Nat) (vs:AV) (o:Option AO) (h:H) (n:Nat) (k:K):RR:=br (Nat.ble KG b) (wrO' b i vs o h n k) .fail
abbrev zbc:=Nat→List AV→H→Nat→K→RR
abbrev Op':=zbc→List AV→Env→H→Nat→K→RR
def kO (v:Option AV) (h:H) (n:Nat) (k:K):RR:=match v with | some v=>k v h n | none=>.fail
def kB (v:Option Bool) (h:H) (n:Nat) (k:K):RR:=match v with | some v=>k (.bool v) h n | none=>.fail
def kN (v:Option Bool) (h:H) (n:Nat) (k:K):RR:=match v with | some v=>k (.bool (!v)) h n | none=>.fail
def kG (v:Option AV) (h:H) (n:Nat) (k:K):RR:=match v with | some v=>k (.agg v) h n | none=>.fail
def kH (v:AV) (h:Option H) (n:Nat) (k:K):RR:=match h with | some h=>k v h n | none=>.fail
abbrev oMv (x:Sx):Op':=fun _ l e h n k=>k (x l e) h n
def vPick (c a b:AV) (k:K):H→Nat→RR:=fun h n=>asBool c fun t=>br t (k a h n) (k b h n)
def zan (c a b:Sx):Op':=fun _ l e h n k=>vPick (c l e) (a l e) (b l e) k h n
def zl4 (bl:Bool) (t:Nat) (l:AV):AO:=br bl (.var t (lenC l) (zd2 l 0 .nil)) (.cells (lenC l) 0 (zd2 l 0 .nil))
def vNew (o:AO) (k:K):H→Nat→RR:=fun h n=>alloc o h n fun h' m=>k (.ptr n 0) h' m
def oNew (o:AO):Op':=fun _ l e h n k=>vNew o  k h n
def vBox (x:AV) (k:K):H→Nat→RR:=fun h n=>br (okCs (zav x)) (alloc (.cells (lenC (zav x)) 0 (zd2 (zav x) 0 .nil)) h n fun h' m=>k (.ptr n 0) h' m) .fail
def oBox (x:Sx):Op':=fun _ l e h n k=>vBox (x l e) k h n
def zai (zero:AV) (ps:List (Nat × Nat × Sx)):Op':=fun _ l e h n k=>kG (zg0 l e ps zero) h n k
def zf8 (a c:Nat) (o:Option AO) (h:H) (n:Nat) (k:K):RR:=
 match o with | some o=>alloc o h n fun h' m=>k (.sl n 0 a c true) h' m | none=>.fail
def mapO {α:Type} (f:α→AO):Option α→Option AO | some t=>some (f t) | none=>none
def zah (a size:Nat) (zero:AV) (ps:List (Nat × Sx)):Op':=fun _ l e h n k=>
 zf8 a a (mapO (.cells (a * size) size) (zic l e size a ps (zfw zero size a))) h n k
def zea (a:Nat) (ps:List (Nat × Sx)):Op':=fun _ l e h n k=>zf8 a a (mapO (.bytes a) (zkn l e a ps 0)) h n k
def zur (a:AV) (k:K):H→Nat→RR:=fun h n=>zbx a fun b off=>rdO off (getO h b) h n k
def zaf (a:Sx):Op':=fun _ l e h n k=>zur (a l e) k h n
def zx1 (m:Nat) (a:AV) (k:K):H→Nat→RR:=fun h n=>zbx a fun b off=>rdNO off m (getO h b) h n k
def zbs (m:Nat) (a:Sx):Op':=fun _ l e h n k=>zx1 m (a l e) k h n
def zx2 (m:Nat) (a x:AV) (k:K):H→Nat→RR:=fun h n=>zbx a fun b off=>
 br (Nat.beq (lenC (zav x)) m) (br (okCs (zav x)) (wrO b off (zav x) (getO h b) h n k) .fail) .fail
def zdi (m:Nat) (a x:Sx):Op':=fun _ l e h n k=>zx2 m (a l e) (x l e) k h n
def zfl (x:AV) (h:H) (n:Nat) (k:K):RR:=match x with
 | .ptr b off=>k (.ptr b off) h n
 | .iface t v=>k (.iface t v) h n
 | .func f c=>k (.func f c) h n
 | _=>.fail
def zaz (x:Sx):Op':=fun _ l e h n k=>zfl (x l e) h n k
def uk (m u:Nat):Nat:=br (Nat.blt m 18446744073709551616) (Nat.land u m) (br (Nat.blt m 340282366920938463463374607431768211456) ((Nat.land u (m % 18446744073709551616)) % (m / 18446744073709551616)) (br (Nat.ble u (m % 18446744073709551616)) (u % ((m - 340282366920938463463374607431768211456) / 18446744073709551616)) m))
def int2 (kd:Nat) (x y:AV) (f:Nat→Nat→RR):RR:=
 asInt x fun i a=>asInt y fun j b=>br (Nat.beq i kd) (br (Nat.beq j kd) (f a b) .fail) .fail
def vAdd (kd mo:Nat) (x y:AV) (k:K):H→Nat→RR:=fun h n=>int2 kd x y fun a b=>frc ((a + b) % mo) fun c=>k (.int kd c) h n
def oAdd (kd mo:Nat) (x y:Sx):Op':=fun _ l e h n k=>vAdd kd mo (x l e) (y l e) k h n
def vSub (kd mo:Nat) (x y:AV) (k:K):H→Nat→RR:=fun h n=>int2 kd x y fun a b=>frc ((a + (mo - b)) % mo) fun c=>k (.int kd c) h n
def oSub (kd mo:Nat) (x y:Sx):Op':=fun _ l e h n k=>vSub kd mo (x l e) (y l e) k h n
def vMul (kd mo:Nat) (x y:AV) (k:K):H→Nat→RR:=fun h n=>int2 kd x y fun a b=>frc ((a * b) % mo) fun c=>k (.int kd c) h n
def oMul (kd mo:Nat) (x y:Sx):Op':=fun _ l e h n k=>vMul kd mo (x l e) (y l e) k h n
def vQuo (kd hi:Nat) (x y:AV) (k:K):H→Nat→RR:=fun h n=>int2 kd x y fun a b=>
 br (Nat.blt a hi) (br (Nat.blt b hi) (br (Nat.beq b 0) .fail (frc (a / b) fun c=>k (.int kd c) h n)) .fail) .fail
def oQuo (kd hi:Nat) (x y:Sx):Op':=fun _ l e h n k=>vQuo kd hi (x l e) (y l e) k h n
def remU (kd hi i m a:Nat) (y:AV) (h:H) (n:Nat) (k:K):RR:=asInt y fun j b=>br (Nat.beq i kd) (br (Nat.beq j kd) (br (Nat.ble 340282366920938463463374607431768211456 m) (br (Nat.beq ((m - 340282366920938463463374607431768211456) / 18446744073709551616) b) (br (Nat.blt (m % 18446744073709551616) hi) (br (Nat.blt b hi) (br (Nat.beq b 0) .fail (br (Nat.blt a 18446744073709551616) (k (.int kd a) h n) .fail)) .fail) .fail) .fail) .fail) .fail) .fail
def remI (kd hi:Nat) (x y:AV) (h:H) (n:Nat) (k:K):RR:=int2 kd x y fun a b=>
 br (Nat.blt a hi) (br (Nat.blt b hi) (br (Nat.beq b 0) .fail (frc (a % b) fun c=>k (.int kd c) h n)) .fail) .fail
def vRem (kd hi:Nat) (x y:AV) (k:K):H→Nat→RR:=fun h n=>match x with
 | .ukn i m a=>remU kd hi i m a y h n k
 | x=>remI kd hi x y h n k
def oRem (kd hi:Nat) (x y:Sx):Op':=fun _ l e h n k=>vRem kd hi (x l e) (y l e) k h n
def andU (kd i m a:Nat) (y:AV) (h:H) (n:Nat) (k:K):RR:=asInt y fun j b=>br (Nat.beq i kd) (br (Nat.beq j kd) (br (Nat.blt m 18446744073709551616) (br (Nat.beq (Nat.land m b) b) (frc (Nat.land a b) fun c=>k (.int kd c) h n) .fail) (br (Nat.blt m 340282366920938463463374607431768211456) (br (Nat.beq (m % 18446744073709551616) b) (frc (m + 340282366920938463463374607431768211456) fun m=>k (.ukn kd m a) h n) .fail) .fail)) .fail) .fail
def andA (kd:Nat) (x y:AV) (h:H) (n:Nat) (k:K):RR:=match x with
 | .ukn i m a=>andU kd i m a y h n k
 | x=>int2 kd x y fun a b=>frc (Nat.land a b) fun c=>k (.int kd c) h n
def oAnd (kd:Nat) (x y:Sx):Op':=fun _ l e h n k=>andA kd (x l e) (y l e) h n k
def vOr (kd:Nat) (x y:AV) (k:K):H→Nat→RR:=fun h n=>int2 kd x y fun a b=>frc (Nat.lor a b) fun c=>k (.int kd c) h n
def oOr (kd:Nat) (x y:Sx):Op':=fun _ l e h n k=>vOr kd (x l e) (y l e) k h n
def vXor (kd:Nat) (x y:AV) (k:K):H→Nat→RR:=fun h n=>int2 kd x y fun a b=>frc (Nat.xor a b) fun c=>k (.int kd c) h n
def oXor (kd:Nat) (x y:Sx):Op':=fun _ l e h n k=>vXor kd (x l e) (y l e) k h n
def vClr (kd mo:Nat) (x y:AV) (k:K):H→Nat→RR:=fun h n=>int2 kd x y fun a b=>frc (Nat.land a (mo - 1 - b)) fun c=>k (.int kd c) h n
def oClr (kd mo:Nat) (x y:Sx):Op':=fun _ l e h n k=>vClr kd mo (x l e) (y l e) k h n
def vShl (kd bi mo:Nat) (x y:AV) (k:K):H→Nat→RR:=fun h n=>asInt x fun i a=>asInt y fun j b=>
 br (Nat.beq i kd) (br (Nat.blt b (hiN j)) (frc ((a * 2 ^ Nat.min b bi) % mo) fun c=>k (.int kd c) h n) .fail) .fail
def oShl (kd bi mo:Nat) (x y:Sx):Op':=fun _ l e h n k=>vShl kd bi mo (x l e) (y l e) k h n
def shrU (kd i m a:Nat) (y:AV) (h:H) (n:Nat) (k:K):RR:=asInt y fun j b=>br (Nat.beq i kd) (br (Nat.beq kd 3) (br (Nat.blt b 64) (br (Nat.blt b (hiN j)) (br (Nat.blt m 18446744073709551616) (frc (m / 2 ^ b) fun m=>frc (a / 2 ^ b) fun a=>k (.ukn kd m a) h n) .fail) .fail) .fail) .fail) .fail
def shrA (kd bi hi:Nat) (x y:AV) (h:H) (n:Nat) (k:K):RR:=match x with
 | .ukn i m a=>shrU kd i m a y h n k
 | x=>asInt x fun i a=>asInt y fun j b=>
 br (Nat.beq i kd) (br (Nat.blt b (hiN j)) (br (Nat.blt a hi) (frc (a / 2 ^ Nat.min b bi) fun c=>k (.int kd c) h n) .fail) .fail) .fail
def oShr (kd bi hi:Nat) (x y:Sx):Op':=fun _ l e h n k=>shrA kd bi hi (x l e) (y l e) h n k
def vLt (kd up mo:Nat) (x y:AV) (k:K):H→Nat→RR:=fun h n=>int2 kd x y fun a b=>k (.bool (Nat.blt ((a + up) % mo) ((b + up) % mo))) h n
def oLt (kd up mo:Nat) (x y:Sx):Op':=fun _ l e h n k=>vLt kd up mo (x l e) (y l e) k h n
def vLe (kd up mo:Nat) (x y:AV) (k:K):H→Nat→RR:=fun h n=>int2 kd x y fun a b=>k (.bool (Nat.ble ((a + up) % mo) ((b + up) % mo))) h n
def oLe (kd up mo:Nat) (x y:Sx):Op':=fun _ l e h n k=>vLe kd up mo (x l e) (y l e) k h n
def str2 (x y:AV) (f:Nat→Nat→Nat→Nat→RR):RR:=match x,y with
 | .str n x,.str m y=>f n x m y
 | _,_=>.fail
def vCat (x y:AV) (k:K):H→Nat→RR:=fun h n=>str2 x y fun a s c t=>
 br (Nat.blt (a + c) 140737488355328) (frc (catB s c t) fun z=>k (.str (a + c) z) h n) .fail
def oCat (x y:Sx):Op':=fun _ l e h n k=>vCat (x l e) (y l e) k h n
def vLtS (x y:AV) (k:K):H→Nat→RR:=fun h n=>str2 x y fun a s c t=>k (.bool (ltB a s c t)) h n
def oLtS (x y:Sx):Op':=fun _ l e h n k=>vLtS (x l e) (y l e) k h n
def vLeS (x y:AV) (k:K):H→Nat→RR:=fun h n=>str2 x y fun a s c t=>k (.bool (!ltB c t a s)) h n
def oLeS (x y:Sx):Op':=fun _ l e h n k=>vLeS (x l e) (y l e) k h n
def oEq (f:AV→AV→Option Bool) (x y:Sx):Op':=fun _ l e h n k=>kB (f (x l e) (y l e)) h n k
def oNe (f:AV→AV→Option Bool) (x y:Sx):Op':=fun _ l e h n k=>kN (f (x l e) (y l e)) h n k
def oEqN (x:Sx):Op':=fun _ l e h n k=>kB (zin (x l e)) h n k
def oNeN (x:Sx):Op':=fun _ l e h n k=>kN (zin (x l e)) h n k
def vNot (x:AV) (k:K):H→Nat→RR:=fun h n=>asBool x fun b=>k (.bool (!b)) h n
def oNot (x:Sx):Op':=fun _ l e h n k=>vNot (x l e) k h n
def vNeg (kd mo:Nat) (x:AV) (k:K):H→Nat→RR:=fun h n=>asInt x fun i a=>br (Nat.beq i kd) (frc ((mo - a) % mo) fun c=>k (.int kd c) h n) .fail
def oNeg (kd mo:Nat) (x:Sx):Op':=fun _ l e h n k=>vNeg kd mo (x l e) k h n
def zx3 (kd mo:Nat) (x:AV) (k:K):H→Nat→RR:=fun h n=>asInt x fun i a=>
 br (Nat.blt a (hiN i)) (frc (a % mo) fun c=>k (.int kd c) h n) (frc ((a + (18446744073709551616 - moN i)) % mo) fun c=>k (.int kd c) h n)
def zm8 (kd mo:Nat) (x:Sx):Op':=fun _ l e h n k=>zx3 kd mo (x l e) k h n
def zmd (x:AV) (h:H) (n:Nat) (k:K):RR:=match x with | .str m y=>alloc (.bytes m y) h n fun h' n'=>k (.sl n 0 m m false) h' n' | _=>.fail
def zi4 (x:Sx):Op':=fun _ l e h n k=>zmd (x l e) h n k
def zqp (s:Option Seg) (h:H) (n:Nat) (k:K):RR:=match s with
 | some (.bs m y)=>frc y fun y=>k (.str m y) h n
 | some (.vs m _ _)=>br (Nat.beq m 0) (k (.str 0 0) h n) .fail
 | none=>.fail
def zlm (x:AV) (h:H) (n:Nat) (k:K):RR:=match x with
 | .nils=>k (.str 0 0) h n
 | .sl b off len cap ex=>zqp (zcz h 1 len (.sl b off len cap ex)) h n k
 | _=>.fail
def zdd (x:Sx):Op':=fun _ l e h n k=>zlm (x l e) h n k
def z1m (x:AV) (b:Nat) (o:Option AO) (h:H) (n:Nat) (k:K):RR:=match o with
 | some (.bytes _ _)=>br (Nat.ble KG b) (k x h n) .fail
 | _=>.fail
def zy8 (x:AV) (h:H) (n:Nat) (k:K):RR:=match x with
 | .sl b off len cap ex=>z1m (.sl b off len cap ex) b (getO h b) h n k
 | _=>.fail
def zv3 (x:Sx):Op':=fun _ l e h n k=>zy8 (x l e) h n k
abbrev zv4 (t:Nat) (x:Sx):Op':=fun _ l e h n k=>k (.iface t (x l e)) h n
abbrev zfn (f:Nat) (caps:List Sx):Op':=fun _ l e h n k=>k (.func f (evC caps l e)) h n
def zk2:Op':=fun _ _ _ h n k=>alloc (.map []) h n fun h' m=>k (.map n) h' m
def zm6 (bytes:Nat) (o:Nat→AO) (x y:AV) (h:H) (n:Nat) (k:K):RR:=
 int2 3 x y fun l c=>br (Nat.ble l c) (br (Nat.blt c 9223372036854775808) (br (Nat.ble (c * bytes) 140737488355328) (zf8 l c (some (o c)) h n k) .fail) .fail) .fail
def vMkSl (size bytes:Nat) (zero:AV) (x c:AV) (k:K):H→Nat→RR:=fun h n=>zm6 bytes (fun c=>.cells (c * size) size (zfw zero size c)) x c h n k
def zv5 (size bytes:Nat) (zero:AV) (x c:Sx):Op':=fun _ l e h n k=>vMkSl size bytes zero (x l e) (c l e) k h n
def vMkBs (x c:AV) (k:K):H→Nat→RR:=fun h n=>zm6 1 (fun c=>.bytes c 0) x c h n k
def zgs (x c:Sx):Op':=fun _ l e h n k=>vMkBs (x l e) (c l e) k h n
def bndA (v:AV):Option Nat:=match v with | .int kd u=>br (Nat.blt u (hiN kd)) (some u) none | _=>none
def bnd (s:Option Sx) (d:Nat) (ls:List AV) (e:Env):Option Nat:=match s with | none=>some d | some s=>bndA (s ls e)
def cutS (m y:Nat) (lo hi:Option Nat) (h:H) (n:Nat) (k:K):RR:=match lo,hi with
 | some l,some r=>br (Nat.ble l r) (br (Nat.ble r m) (frc (cutB m y l r) fun z=>k (.str (r - l) z) h n) .fail) .fail
 | _,_=>.fail
def za1 (x:Sx) (lo hi:Option Sx):Op':=fun _ l e h n k=>match x l e with
 | .str m y=>cutS m y (bnd lo 0 l e) (bnd hi m l e) h n k
 | _=>.fail
def zgm (size:Nat):Option AO→Bool
 | some (.cells _ es _)=>br (Nat.beq es size) (Nat.blt 0 size) false
 | some (.bytes _ _)=>Nat.beq size 1
 | some (.rowb _ _ _ _)=>Nat.beq size 1
 | _=>false
def zkd (size b off cap:Nat) (ex:Bool) (lo hi mx:Option Nat) (h:H) (n:Nat) (k:K):RR:=match lo,hi,mx with
 | some l,some r,some m=>br (Nat.ble l r) (br (Nat.ble r m) (br (Nat.ble m cap)
   (k (.sl b (br ex (br (Nat.beq m l) off (off + l * size)) (off + l * size)) (r - l) (m - l) ex) h n) .fail) .fail) .fail
 | _,_,_=>.fail
def zjh (lo hi:Option Nat) (h:H) (n:Nat) (k:K):RR:=match lo,hi with
 | some l,some r=>br (Nat.beq l 0) (br (Nat.beq r 0) (k .nils h n) .fail) .fail
 | _,_=>.fail
def zap (size:Nat) (x:Sx) (lo hi mx:Option Sx):Op':=fun _ l e h n k=>match x l e with
 | .nils=>(match mx with | none=>zjh (bnd lo 0 l e) (bnd hi 0 l e) h n k | some m=>(match bndA (m l e) with | some 0=>zjh (bnd lo 0 l e) (bnd hi 0 l e) h n k | _=>.fail))
 | .sl b off len cap ex=>br (br ex true (zgm size (getO h b))) (zkd size b off cap (br mx.isSome (br ex true (Nat.blt 0 cap)) ex) (bnd lo 0 l e) (bnd hi len l e) (bnd mx cap l e) h n k) .fail
 | _=>.fail
def zei (m size:Nat) (x:Sx) (lo hi mx:Option Sx):Op':=fun _ l e h n k=>zbx (x l e) fun b off=>
 zkd size b off m true (bnd lo 0 l e) (bnd hi m l e) (bnd mx m l e) h n k
def zuq (off:Nat) (x:AV) (k:K):H→Nat→RR:=fun h n=>zbx x fun b o=>frc (o + off) fun o=>k (.ptr b o) h n
def zaj (off:Nat) (x:Sx):Op':=fun _ l e h n k=>zuq off (x l e) k h n
def zwg (off:Nat) (size:Option Nat) (x:AV) (h:H) (n:Nat) (k:K):RR:=match x with
 | .agg l=>(match size with
  | some m=>k (.agg (zj5 m (zke off l))) h n
  | none=>kO (nthC off l) h n k)
 | _=>.fail
def oPart (off:Nat) (size:Option Nat) (x:Sx):Op':=fun _ l e h n k=>zwg off size (x l e) h n k
def idx (v:AV) (m:Nat) (f:Nat→RR):RR:=asInt v fun kd u=>br (Nat.blt u (hiN kd)) (br (Nat.blt u m) (f u) .fail) .fail
def zz3 (m size:Nat) (x i:AV) (k:K):H→Nat→RR:=fun h n=>zbx x fun b off=>idx i m fun i=>frc (off + i * size) fun o=>k (.ptr b o) h n
def zeh (m size:Nat) (x i:Sx):Op':=fun _ l e h n k=>zz3 m size (x l e) (i l e) k h n
def asSl (v:AV) (f:Nat→Nat→Nat→RR):RR:=match v with | .sl b off len _ _=>f b off len | _=>.fail
def zx0 (size:Nat) (x i:AV) (k:K):H→Nat→RR:=fun h n=>asSl x fun b off len=>idx i len fun i=>frc (off + i * size) fun o=>k (.ptr b o) h n
def zcl (size:Nat) (x i:Sx):Op':=fun _ l e h n k=>zx0 size (x l e) (i l e) k h n
def zyz (size:Nat) (agg:Bool) (i:Nat) (x:AV) (h:H) (n:Nat) (k:K):RR:=match x with
 | .agg l=>br agg (k (.agg (zj5 size (zke (i * size) l))) h n) (kO (nthC (i * size) l) h n k)
 | _=>.fail
def vIdxA (m size:Nat) (agg:Bool) (x i:AV) (k:K):H→Nat→RR:=fun h n=>idx i m fun i=>zyz size agg i x h n k
def zv1 (m size:Nat) (agg:Bool) (x i:Sx):Op':=fun _ l e h n k=>vIdxA m size agg (x l e) (i l e) k h n
def zlx (x i:AV) (h:H) (n:Nat) (k:K):RR:=match x with
 | .str m y=>idx i m fun i=>frc (zar m y i) fun c=>k (.int 4 c) h n
 | _=>.fail
def zv2 (x i:Sx):Op':=fun _ l e h n k=>zlx (x l e) (i l e) h n k
def zyo (k:AV):Option AO→Option (Option AV) | some (.map l)=>zg5 k l | _=>none
def zq5 (h:H) (m k:AV):Option (Option AV):=match m with
 | .nilm=>some none
 | .map b=>zyo k (getO h b)
 | _=>none
def zkg (zero:AV) (ok:Bool) (r:Option (Option AV)) (h:H) (n:Nat) (k:K):RR:=match r with
 | none=>.fail
 | some none=>k (br ok (.tup (.cons zero (.cons (.bool false) .nl))) zero) h n
 | some (some v)=>k (br ok (.tup (.cons v (.cons (.bool true) .nl))) v) h n
def zc7 (ks:Bool) (zero:AV) (ok:Bool) (m x:Sx):Op':=fun _ l e h n k=>br (zgn ks (x l e)) (zkg zero ok (zq5 h (m l e) (x l e)) h n k) .fail
def putMap (h:H) (b:Nat) (l:Option (List (AV × AV))) (n:Nat) (k:K):RR:=match l with | some l=>k .undef (setO h b (.map l)) n | none=>.fail
def ztg (b:Nat) (x v:AV) (o:Option AO) (h:H) (n:Nat) (k:K):RR:=match o with
 | some (.map l)=>br (Nat.ble KG b) (putMap h b (setK x v l) n k) .fail
 | _=>.fail
def zow (m x v:AV) (h:H) (n:Nat) (k:K):RR:=match m with
 | .map b=>ztg b x v (getO h b) h n k
 | _=>.fail
def zgr (ks:Bool) (m x v:Sx):Op':=fun _ l e h n k=>br (zgn ks (x l e)) (zow (m l e) (x l e) (v l e) h n k) .fail
def extA (x:AV) (i:Nat) (h:H) (n:Nat) (k:K):RR:=match x with | .tup l=>kO (nthC i l) h n k | _=>.fail
def oExt (x:Sx) (i:Nat):Op':=fun _ l e h n k=>extA (x l e) i h n k
def two (a:AV) (b:Bool):AV:=.tup (.cons a (.cons (.bool b) .nl))
def zpj (t:Nat) (zero:AV) (x:AV) (h:H) (n:Nat) (k:K):RR:=match x with
 | .iface u v=>br (Nat.beq u t) (k (two v true) h n) (k (two zero false) h n)
 | .nili=>k (two zero false) h n
 | _=>.fail
def ztk (t:Nat) (zero:AV) (x:Sx):Op':=fun _ l e h n k=>zpj t zero (x l e) h n k
def zr4 (m:Nat) (ts:List Nat) (x:AV) (h:H) (n:Nat) (k:K):RR:=match x with
 | .iface u v=>br (Nat.blt u m) (br (memN u ts) (k (two (.iface u v) true) h n) (k (two .nili false) h n)) .fail
 | .nili=>k (two .nili false) h n
 | _=>.fail
def zij (m:Nat) (ts:List Nat) (x:Sx):Op':=fun _ l e h n k=>zr4 m ts (x l e) h n k
def zax (f:Nat) (args:List Sx):Op':=fun call l e h n k=>call f (evL args l e) h n k
def zpn (call:zbc) (f:AV) (args:List AV) (h:H) (n:Nat) (k:K):RR:=match f with | .func f caps=>call f (args ++ toL caps) h n k | _=>.fail
def zc1 (f:Sx) (args:List Sx):Op':=fun call l e h n k=>zpn call (f l e) (evL args l e) h n k
def callO (call:zbc) (f:Option Nat) (args:List AV) (h:H) (n:Nat) (k:K):RR:=match f with | some f=>call f args h n k | none=>.fail
def callP (call:zbc) (f:Nat) (v:AV) (args:List AV) (h:H) (n:Nat) (k:K):RR:=match v with | .agg (.cons a .nl)=>call f (a :: args) h n k | _=>.fail
def invO (call:zbc) (ms:List (Nat × Nat)) (t:Nat) (v:AV) (args:List AV) (h:H) (n:Nat) (k:K) (p:Option Nat):RR:=match p with
 | some f=>callP call f v args h n k
 | none=>callO call (zcr t ms) (v :: args) h n k
def zoq (call:zbc) (ps ms:List (Nat × Nat)) (x:AV) (args:List AV) (h:H) (n:Nat) (k:K):RR:=match x with
 | .iface t v=>invO call ms t v args h n k (zcr t ps)
 | _=>.fail
def zc6 (ps ms:List (Nat × Nat)) (x:Sx) (args:List Sx):Op':=fun call l e h n k=>zoq call ps ms (x l e) (evL args l e) h n k
def lenL {α:Type} (l:List α):Nat:=@List.rec α (fun _=>Nat) 0 (fun _ _ j=>Nat.succ j) l
theorem z1b {α:Type} (a:α) (l:List α):lenL (a :: l)=lenL l + 1:=rfl
theorem z1e {α:Type}:lenL ([]:List α)=0:=rfl
def zf9 (m:Nat) (r:RR):RR:=br (Nat.blt m 9223372036854775808) r .fail
def lenO (o:Option AO) (h:H) (n:Nat) (k:K):RR:=match o with | some (.map l)=>zf9 (lenL l) (frc (lenL l) fun m=>k (.int 3 m) h n) | _=>.fail
def zl0 (x:AV) (h:H) (n:Nat) (k:K):RR:=match x with
 | .str m _=>zf9 m (frc m fun m=>k (.int 3 m) h n)
 | _=>.fail
def zgc (x:AV) (h:H) (n:Nat) (k:K):RR:=match x with
 | .nils=>k (.int 3 0) h n
 | .sl _ _ m _ _=>zf9 m (frc m fun m=>k (.int 3 m) h n)
 | _=>.fail
def zrd (x:AV) (h:H) (n:Nat) (k:K):RR:=match x with
 | .nilm=>k (.int 3 0) h n
 | .map b=>lenO (getO h b) h n k
 | _=>.fail
def ze1 (x:Sx):Op':=fun _ l e h n k=>zl0 (x l e) h n k
def zcm (x:Sx):Op':=fun _ l e h n k=>zgc (x l e) h n k
def zzc (x:Sx):Op':=fun _ l e h n k=>zrd (x l e) h n k
def zzb (m:Nat):Op':=fun _ _ _ h n k=>zf9 m (k (.int 3 m) h n)
def capA (x:AV) (h:H) (n:Nat) (k:K):RR:=match x with
 | .nils=>k (.int 3 0) h n
 | .sl _ _ _ m ex=>br ex (zf9 m (k (.int 3 m) h n)) .fail
 | _=>.fail
def oCap (x:Sx):Op':=fun _ l e h n k=>capA (x l e) h n k
def vMin (kd up mo:Nat) (x y:AV) (k:K):H→Nat→RR:=fun h n=>int2 kd x y fun a b=>k (.int kd (br (Nat.blt ((b + up) % mo) ((a + up) % mo)) b a)) h n
def oMin (kd up mo:Nat) (x y:Sx):Op':=fun _ l e h n k=>vMin kd up mo (x l e) (y l e) k h n
def vMax (kd up mo:Nat) (x y:AV) (k:K):H→Nat→RR:=fun h n=>int2 kd x y fun a b=>k (.int kd (br (Nat.blt ((a + up) % mo) ((b + up) % mo)) b a)) h n
def oMax (kd up mo:Nat) (x y:Sx):Op':=fun _ l e h n k=>vMax kd up mo (x l e) (y l e) k h n
def clearO (b:Nat) (o:Option AO) (h:H) (n:Nat) (k:K):RR:=match o with | some (.map _)=>br (Nat.ble KG b) (k .undef (setO h b (.map [])) n) .fail | _=>.fail
def zr9 (m:AV) (h:H) (n:Nat) (k:K):RR:=match m with
 | .nilm=>k .undef h n
 | .map b=>clearO b (getO h b) h n k
 | _=>.fail
def ztl (m:Sx):Op':=fun _ l e h n k=>zr9 (m l e) h n k
def zob (size:Nat) (z x:AV) (h:H) (n:Nat) (k:K):RR:=match x with
 | .nils=>k .undef h n
 | .sl b o m _ _=>br (Nat.beq m 0) (k .undef h n) (br (Nat.ble (m * size) 4096) (frc (m * size) fun q=>wrO b o (zb7 (zfw z size m) 0 q) (getO h b) h n k) .fail)
 | _=>.fail
def ztm (size:Nat) (z:AV) (m:Sx):Op':=fun _ l e h n k=>zob size z (m l e) h n k
def zgl (a:Nat) (o:Option AO) (h:H) (n:Nat) (k:K):RR:=match o with
 | some o=>alloc o h n fun h' m=>k (.sl n 0 a a false) h' m
 | none=>.fail
def zy3 (es:Nat) (a:Option Seg) (s:Seg):Option AO:=match a with | some a=>zdm es a s | none=>none
def zev (size by_:Nat) (x:AV) (a:Nat) (s:Seg) (h:H) (n:Nat) (k:K):RR:=
 match x with
 | .nils=>br (Nat.beq a 0) (k .nils h n) (br (Nat.blt a 140737488355328) (br (Nat.ble (a * by_) 140737488355328) (zgl a (zdm size (.vs 0 0 .nil) s) h n k) .fail) .fail)
 | .sl b off len cap ex=>br (Nat.blt (len + a) 140737488355328) (br (Nat.ble ((len + a) * by_) 140737488355328)
  (br (Nat.ble (len + a) cap) (kH (.sl b off (len + a) cap ex) (ze9 h b (off + len * size) s) n k)
   (br (br ex true (br (Nat.ble KG b) (zgm size (getO h b)) false)) (zgl (len + a) (zy3 size (zcz h size len (.sl b off len cap ex)) s) (br ex h (zey h b)) n k) .fail)) .fail) .fail
 | _=>.fail
def zjf (size by_:Nat) (x:AV) (a:Nat) (s:Option Seg) (h:H) (n:Nat) (k:K):RR:=match s with | some s=>zev size by_ x a s h n k | none=>.fail
def zdq (size by_:Nat) (x y:AV) (h:H) (n:Nat) (k:K):RR:=match y with
 | .nils=>zev size by_ x 0 (.vs 0 0 .nil) h n k
 | .str m z=>br (Nat.beq size 1) (zev size by_ x m (.bs m z) h n k) .fail
 | .sl b off len cap ex=>zjf size by_ x len (zcz h size len (.sl b off len cap ex)) h n k
 | _=>.fail
def zaq (size by_:Nat) (x y:Sx):Op':=fun _ l e h n k=>zdq size by_ (x l e) (y l e) h n k
def zp8 (size by_:Nat) (u8:Bool) (zero:AV) (x y:Sx):Op':=fun _ l e h n k=>asInt (y l e) fun kd a=>
 br (Nat.blt a 16777216) (br (Nat.blt a (hiN kd)) (zev size by_ (x l e) a (br u8 (.bs a 0) (.vs (a * size) 0 (zfw zero size a))) h n k) .fail) .fail
def zmt (ty a x:Nat) (h:H) (n:Nat) (k:K):RR:=alloc (.rowb ty a a x) h n fun h' m=>k (.sl n 0 a a false) h' m
def appBO (ty b off len cap a z:Nat) (o:Option AO) (h:H) (n:Nat) (k:K):RR:=match o with
 | some (.rowb ty' m q y)=>br (Nat.beq ty' ty) (br (Nat.ble KG b) (br (Nat.blt 0 (len + a)) (br (Nat.blt (len + a) 140737488355328) (br (Nat.ble (off + len) q)
   (br (Nat.ble (len + a) cap)
    (br (Nat.ble (off + len + a) m) (br (Nat.ble (off + len + a) 140737488355328) (frc (catB (cutB q y 0 (off + len)) a z) fun y'=>k (.sl b off (len + a) cap false) (setO h b (.rowb ty m (off + len + a) y')) n) .fail) .fail)
    (zmt ty (len + a) (catB (cutB q y off (off + len)) a z) (zey h b) n k)) .fail) .fail) .fail) .fail) .fail
 | _=>.fail
def zyb (ty:Nat) (x:AV) (a z:Nat) (h:H) (n:Nat) (k:K):RR:=match x with
 | .nils=>br (Nat.beq a 0) (k .nils h n) (br (Nat.blt a 140737488355328) (zmt ty a z h n k) .fail)
 | .sl b off len cap ex=>br ex .fail (appBO ty b off len cap a z (getO h b) h n k)
 | _=>.fail
def zyc (ty:Nat) (x y:AV) (h:H) (n:Nat) (k:K):RR:=match y with | .str a z=>zyb ty x a z h n k | _=>.fail
def oAppB (ty:Nat) (x y:Sx):Op':=fun _ l e h n k=>zyc ty (x l e) (y l e) h n k
def usdA (x:AV) (h:H) (n:Nat) (k:K):RR:=match x with
 | .nils=>k .nilp h n
 | .sl b off _ cap _=>br (Nat.blt 0 cap) (k (.ptr b off) h n) .fail
 | _=>.fail
def oUsd (x:Sx):Op':=fun _ l e h n k=>usdA (x l e) h n k
def ustO (ty b off m:Nat) (o:Option AO) (h:H) (n:Nat) (k:K):RR:=match o with
 | some (.rowb ty' _ q y)=>br (Nat.beq ty' ty) (br (Nat.ble KG b) (br (Nat.blt 0 m) (br (Nat.blt m 9223372036854775808) (br (Nat.ble (off + m) q) (frc (cutB q y off (off + m)) fun z=>k (.str m z) (zey h b) n) .fail) .fail) .fail) .fail) .fail
 | _=>.fail
def ustA (ty:Nat) (x y:AV) (h:H) (n:Nat) (k:K):RR:=asInt y fun kd m=>br (Nat.beq kd 3) (match x with
 | .nilp=>br (Nat.beq m 0) (k (.str 0 0) h n) .fail
 | .ptr b off=>ustO ty b off m (getO h b) h n k
 | _=>.fail) .fail
def oUst (ty:Nat) (x y:Sx):Op':=fun _ l e h n k=>ustA ty (x l e) (y l e) h n k
def p2uO (x:AV) (off:Nat) (o:Option AO) (h:H) (n:Nat) (k:K):RR:=match o with
 | some (.var _ m _)=>br (Nat.blt off m) (k x h n) .fail
 | _=>.fail
def p2uA (x:AV) (h:H) (n:Nat) (k:K):RR:=match x with
 | .nilp=>k .nilp h n
 | .ptr b off=>p2uO (.ptr b off) off (getO h b) h n k
 | _=>.fail
def oP2U (x:Sx):Op':=fun _ l e h n k=>p2uA (x l e) h n k
def u2pO (u sz:Nat) (x:AV) (o:Option AO) (h:H) (n:Nat) (k:K):RR:=match o with
 | some (.var ty m _)=>br (Nat.beq ty u) (br (Nat.beq m sz) (k x h n) .fail) .fail
 | _=>.fail
def u2pA (u sz:Nat) (x:AV) (h:H) (n:Nat) (k:K):RR:=match x with
 | .nilp=>k .nilp h n
 | .ptr b off=>br (Nat.beq off 0) (u2pO u sz (.ptr b 0) (getO h b) h n k) .fail
 | _=>.fail
def oU2P (u sz:Nat) (x:Sx):Op':=fun _ l e h n k=>u2pA u sz (x l e) h n k
def zm0 (x:AV):Option Nat:=match x with | .nils=>some 0 | .sl _ _ l _ _=>some l | .str l _=>some l | _=>none
def zks (x:AV) (m:Nat) (s:Option Seg) (h:H) (n:Nat) (k:K):RR:=match s with
 | some s=>(match x with
  | .sl b off _ _ _=>kH (.int 3 m) (ze9 h b off s) n k
  | .nils=>k (.int 3 0) h n
  | _=>.fail)
 | none=>.fail
def zmq (size:Nat) (x y:AV) (h:H) (n:Nat) (k:K):RR:=match zm0 x,zm0 y with
 | some a,some c=>zf9 (Nat.min c a) (zks x (Nat.min c a) (zcz h size (Nat.min c a) y) h n k)
 | _,_=>.fail
def zfm (size:Nat) (x y:Sx):Op':=fun _ l e h n k=>zmq size (x l e) (y l e) h n k
def strA (x:AV) (h:H) (n:Nat) (k:K):RR:=match x with | .str m y=>k (.str m y) h n | _=>.fail
def oStr (x:Sx):Op':=fun _ l e h n k=>strA (x l e) h n k
def oBad:Op':=fun _ _ _ _ _ _=>.fail
structure LOper where
 dst:Nat
 guard:Option (Nat × Bool)
 op:Op'
def putE (e:Env) (d:Nat) (v:AV):Env:=br (Nat.beq d 0) e (ePut v d e)
def ze7 (b:Bool) (v:AV):Bool:=match v with | .bool c=>br b c (!c) | _=>false
def za4 (ls:List AV) (g:Option (Nat × Bool)):Bool:=
 @Option.rec (Nat × Bool) (fun _=>Bool) true (fun p=>ze7 p.2 (nthD p.1 ls)) g
def z1i (w:Bool) (o:K→H→Nat→RR) (k:K) (h:H) (n:Nat):RR:=brW (brW true w hi31) (o k h n) (k .undef h n)
def zcy (call:zbc) (l:List LOper):List AV→Env→H→Nat→RR:=
 @List.rec LOper (fun _=>List AV→Env→H→Nat→RR) (fun _ e h n=>.nrm e h n)
  (fun o _ go ls e h n=>z1i (za4 ls o.guard) (fun k h n=>o.op call ls e h n k) (fun v h n=>go (v :: ls) (putE e o.dst v) h n) h n) l
inductive GR where
 | fail
 | nrm (e:Env) (h:H) (n p:Nat)
 | ext (id:Nat) (e:Env) (h:H) (n p:Nat)
 | ret (e:Env) (h:H) (n p:Nat)
 deriving Inhabited
abbrev YT:=List AV→H→Nat→RR
abbrev XG:=zbc→YT→Nat→Env→H→Nat→Nat→GR
structure LG where
 ok:Bool
 body:XG
abbrev zrz:=Nat→Option LG
structure Lv where
 call:zbc
 iter:zrz
abbrev X:=Lv→Env→H→Nat→RR
def zgu (k:Env→H→Nat→RR) (r:RR):RR:=
 @RR.rec (fun _=>RR) .fail k (fun id e h n=>.ext id e h n) (fun e h n=>.ret e h n) (fun _ _ _=>.fail) r
def outX (id:Nat) (r:RR):RR:=
 @RR.rec (fun _=>RR) .fail (fun e h n=>.nrm e h n) (fun j e h n=>br (Nat.beq j id) (.nrm e h n) (.ext j e h n)) (fun e h n=>.ret e h n) (fun _ _ _=>.fail) r
def nrmX (k:Env→H→Nat→RR) (r:RR):RR:=
 @RR.rec (fun _=>RR) .fail k (fun _ _ _ _=>.fail) (fun _ _ _=>.fail) (fun _ _ _=>.fail) r
def zhu (l:List AV):Nat→Env→Env:=@List.rec AV (fun _=>Nat→Env→Env) (fun _ e=>e) (fun v _ g k e=>g (Nat.succ k) (ePut v k e)) l
theorem z08 (k:Nat) (e:Env):zhu [] k e=e:=rfl
theorem z04 (v:AV) (l:List AV) (k:Nat) (e:Env):zhu (v :: l) k e=zhu l (k + 1) (ePut v k e):=rfl
def zvc (e0:Env) (r:RR):RR:=
 @RR.rec (fun _=>RR) .fail (fun _ h n=>.nrm e0 h n) (fun id _ h n=>.ext id e0 h n) (fun _ h n=>.ret e0 h n) (fun _ _ _=>.fail) r
def zvt (e0:Env) (h:H) (n p:Nat):RR:=br (Nat.beq p 0) (.nrm e0 h n) (br (Nat.beq p 1) (.ret e0 h n) (frc (p - 2) fun id=>.ext id e0 h n))
def zkh (b:Env→H→Nat→RR) (f:Nat):Env→H→Nat→RR:=
 @Nat.rec (fun _=>Env→H→Nat→RR) (fun _ _ _=>.fail) (fun _ go e h n=>zgu go (b e h n)) f
def zaa:X:=fun _ e h n=>.nrm e h n
def xOps (l:List LOper):X:=fun L e h n=>zcy L.call l [] e h n
def xSeq (a b:X):X:=fun L e h n=>zgu (fun e h n=>b L e h n) (a L e h n)
def xCond (c:Sx) (a b:X):X:=fun L e h n=>asBool (c [] e) fun t=>br t (a L e h n) (b L e h n)
def zx7 (id:Nat) (b:X):X:=fun L e h n=>outX id (b L e h n)
def zxi (b:X):X:=fun L e h n=>zkh (b L) 1000000 e h n
def endG (e0:Env) (r:GR):RR:=
 @GR.rec (fun _=>RR) .fail (fun _ h n p=>zvt e0 h n p) (fun _ _ _ _ _=>.fail) (fun _ h n p=>zvt e0 h n p) r
def iterX (call:zbc) (Y:YT) (caps:AV) (e0:Env) (h:H) (n:Nat) (g:Option LG):RR:=match g with
 | some lg=>br lg.ok (br (Nat.ble (lenL (toL caps)) 200) (br (Nat.blt n 18446744073709551615) (frc (n + 1) fun m=>endG e0 (lg.body call Y n (zhu (.yld n :: toL caps) 1 .nil) h m 0)) .fail) .fail) .fail
 | none=>.fail
def one1 (f:AV→H→Nat→RR) (l:List AV) (h:H) (n:Nat):RR:=match l with
 | [v]=>f v h n
 | _=>.fail
def rfX (f:AV) (L:Lv) (e:Env) (one:Env→H→Nat→RR) (d:Nat) (h:H) (n:Nat):RR:=match f with
  | .func g caps=>iterX L.call (one1 fun v h n=>zvc e (one (putE e d v) h n)) caps e h n (L.iter g)
  | _=>.fail
def xRf (f:Sx) (d:Nat) (a b:X):X:=fun L e h n=>rfX (f [] e) L e (fun e h n=>nrmX (fun e h n=>b L e h n) (a L e h n)) d h n
def zae (id:Nat):X:=fun _ e h n=>.ext id e h n
def xRet:X:=fun _ e h n=>.ret e h n
def xBad:X:=fun _ _ _ _=>.fail
inductive LRes where
 | tmp (k:Nat)
 | cell1 (k:Nat)
 | cellN (k size:Nat)
 deriving Inhabited
structure LF where
 results:List LRes
 body:X
def zgg (e:Env) (h:H) (n:Nat) (r:LRes) (k:K):RR:=match r with
 | .tmp i=>k (sT i [] e) h n
 | .cell1 i=>zbx (sT i [] e) fun b off=>rdO off (getO h b) h n k
 | .cellN i m=>zbx (sT i [] e) fun b off=>rdNO off m (getO h b) h n k
def znq (e:Env) (h:H) (n:Nat):List LRes→(AV→RR)→RR
 | [],k=>k .nl
 | r :: l,k=>zgg e h n r fun v _ _=>znq e h n l fun vs=>k (.cons v vs)
def resK (e:Env) (h:H) (n:Nat) (l:List LRes) (k:K):RR:=match l with
 | [r]=>zgg e h n r k
 | l=>znq e h n l fun vs=>k (.tup vs) h n
structure Cx where
 code:Nat→Option LF
 intr:Nat→Option (List AV→H→Nat→K→RR)
 iter:zrz
def endF (rs:List LRes) (k:K) (r:RR):RR:=
 @RR.rec (fun _=>RR) .fail (fun e h n=>resK e h n rs k) (fun _ _ _ _=>.fail) (fun e h n=>resK e h n rs k) (fun _ _ _=>.fail) r
def runF (L:Lv) (lf:LF) (args:List AV) (h:H) (n:Nat) (k:K):RR:=br (Nat.ble (lenL args) 200) (endF lf.results k (lf.body L (zhu args 1 .nil) h n)) .fail
def zpu (L:Lv) (args:List AV) (h:H) (n:Nat) (k:K) (o:Option LF):RR:=@Option.rec LF (fun _=>RR) .fail (fun lf=>runF L lf args h n k) o
def zpv (args:List AV) (h:H) (n:Nat) (k:K) (r:RR) (o:Option (List AV→H→Nat→K→RR)):RR:=@Option.rec (List AV→H→Nat→K→RR) (fun _=>RR) r (fun i=>i args h n k) o
def lv (cx:Cx) (d:Nat):Lv:=
 @Nat.rec (fun _=>Lv) ⟨fun _ _ _ _ _=>.fail,cx.iter⟩
  (fun _ L=>⟨fun f args h n k=>zpv args h n k (zpu L args h n k (cx.code f)) (cx.intr f),cx.iter⟩) d
end
end Go.VE
namespace Go.VE
noncomputable section
structure TI where
 und:TypeDesc
 size:Nat
 bytes:Nat
 zero:Option Value
 methods:Array Method
 deriving Inhabited
def T.ofL {α:Type}:List α→Nat→T α→T α
 | [],_,t=>t
 | a :: l,k,t=>T.ofL l (k + 1) (t.put (some a) k)
def zj8 (types:T TypeInfo) (i:TypeInfo):TypeDesc:=
 match i.desc with
 | .named _ u=>match types.get (u + 1) with | some j=>j.desc | none=>.invalid
 | d=>d
structure Tb where
 types:T TypeInfo
 list:List TypeInfo
 prom:List (Nat × String × Nat)
 eqf:TypeId→Bool
def und (tb:Tb) (t:TypeId):TypeDesc:=match tb.types.get (t + 1) with | some i=>zj8 tb.types i | none=>.invalid
def size (tb:Tb) (t:TypeId):Nat:=match tb.types.get (t + 1) with | some i=>i.size | none=>0
def isU8 (tb:Tb) (t:TypeId):Bool:=match und tb t with | .int .u8=>true | _=>false
def isAg (tb:Tb) (t:TypeId):Bool:=match und tb t with | .struct _=>true | .array _ _=>true | _=>false
def nthL {α:Type}:Nat→List α→Option α
 | _,[]=>none
 | 0,a :: _=>some a
 | n + 1,_ :: l=>nthL n l
def zb3:List UInt8→Nat→Nat
 | [],x=>x
 | b :: l,x=>zb3 l (x * 256 + b.toNat)
def encI (k:IntKind) (n:Int):Nat:=(n % (moN (zad k):Int)).toNat
def inI (k:IntKind) (n:Int):Bool:=decide (k.min≤n) && decide (n≤k.max)
mutual
def lowV:Value→Option AV
 | .bool b=>some (.bool b)
 | .int k n=>br (inI k n) (some (.int (zad k) (encI k n))) none
 | .string s=>some (.str s.size (zb3 s.data.toList 0))
 | .pointer none=>some .nilp
 | .slice none 0 0=>some .nils
 | .map none=>some .nilm
 | .nilFunc=>some .nilf
 | .nilIface=>some .nili
 | .agg ⟨l⟩=>match zl3 l with | some l=>br (okCs l) (some (.agg l)) none | none=>none
 | .tuple ⟨l⟩=>match zl3 l with | some l=>some (.tup l) | none=>none
 | .iface t v=>match lowV v with | some v=>some (.iface t v) | none=>none
 | _=>none
def zl3:List Value→Option AV
 | []=>some .nl
 | v :: l=>match lowV v,zl3 l with | some v,some l=>some (.cons v l) | _,_=>none
end
def zc0 (t:Nat):List (Option Nat)→Nat→Option Nat
 | [],_=>none
 | some d :: l,k=>bif Nat.beq d t then some k else zc0 t l (k + 1)
 | none :: l,k=>zc0 t l (k + 1)
def lowT (ds:List (Option Nat)) (t:Nat):Sx:=match zc0 t ds 0 with | some k=>sL k | none=>sT (t + 1)
def lowS (ds:List (Option Nat)):Operand→Option Sx
 | .tmp t=>some (lowT ds t)
 | .const v=>match lowV v with | some v=>some (sC v) | none=>none
 | .global g=>bif Nat.blt g KG then some (sC (.ptr g 0)) else none
 | .func f=>some (sC (.func f .nl))
def zfc (ds:List (Option Nat)):List Operand→Option (List Sx)
 | []=>some []
 | x :: l=>match lowS ds x,zfc ds l with | some x,some l=>some (x :: l) | _,_=>none
def lowO (ds:List (Option Nat)):Option Operand→Option (Option Sx)
 | none=>some none
 | some x=>match lowS ds x with | some x=>some (some x) | none=>none
def zvs (tb : Tb) (t : TypeId) : Bool := match tb.types.get (t + 1) with | some i => (match i.desc with | .named n _ => n == "strings.Builder" | _ => false) | none => false
def zhr (tb:Tb) (t:TypeId):Option AV:=match tb.types.get (t + 1) with | some i=>i.zero.bind lowV | none=>none
def zb4 (tb:Tb) (t:TypeId):Option AV:=match zhr tb t with | some v=>some (zav v) | none=>none
def ok1 (ds:List (Option Nat)) (x:Operand) (f:Sx→Op'):Op':=match lowS ds x with | some x=>f x | none=>oBad
def ok2 (ds:List (Option Nat)) (x y:Operand) (f:Sx→Sx→Op'):Op':=match lowS ds x,lowS ds y with | some x,some y=>f x y | _,_=>oBad
def ok3 (ds:List (Option Nat)) (x y z:Operand) (f:Sx→Sx→Sx→Op'):Op':=match lowS ds x,lowS ds y,lowS ds z with | some x,some y,some z=>f x y z | _,_,_=>oBad
def zf1 (ds:List (Option Nat)) (size:Nat):List (Nat × Operand)→Option (List (Nat × Nat × Sx))
 | []=>some []
 | (i,x) :: l=>match lowS ds x,zf1 ds size l with | some x,some l=>some ((i * size,size,x) :: l) | _,_=>none
def zeq (ds:List (Option Nat)) (tb:Tb) (fs:Array Field):List (Nat × Operand)→Option (List (Nat × Nat × Sx))
 | []=>some []
 | (i,x) :: l=>match nthL i fs.toList,lowS ds x,zeq ds tb fs l with
  | some f,some x,some l=>some ((f.offset,size tb f.type,x) :: l)
  | _,_,_=>none
def zcw (ds:List (Option Nat)):List (Nat × Operand)→Option (List (Nat × Sx))
 | []=>some []
 | (i,x) :: l=>match lowS ds x,zcw ds l with | some x,some l=>some ((i,x) :: l) | _,_=>none
def hasM (methods:List Method) (name:String):Option (Nat × Bool):=
 match methods with
 | []=>none
 | m :: l=>bif m.name == name then (bif m.path.isEmpty then m.func else none) else hasM l name
def zqb (d:TypeDesc) (pr:Bool):Bool:=match d with | .pointer _=>pr | .invalid=>false | _=>!pr
def ze2 (name:String):List (Nat × String × Nat)→List (Nat × Nat)
 | []=>[]
 | (t,m,f) :: l=>bif m == name then (t,f) :: ze2 name l else ze2 name l
def zcf (tb:Tb) (name:String):List TypeInfo→Nat→List (Nat × Nat)
 | [],_=>[]
 | i :: l,t=>match hasM i.methods.toList name with
  | some (f,pr)=>bif zqb (zj8 tb.types i) pr then (t,f) :: zcf tb name l (t + 1) else zcf tb name l (t + 1)
  | none=>zcf tb name l (t + 1)
def implements (want:Array (String × TypeId)) (i:TypeInfo):Bool:=want.all fun (n,s)=>i.methods.any fun m=>m.name == n && m.sig == s
def zdb (want:Array (String × TypeId)):List TypeInfo→Nat→List Nat
 | [],_=>[]
 | i :: l,t=>bif implements want i then t :: zdb want l (t + 1) else zdb want l (t + 1)
def upN (k:Nat):Nat:=br (Nat.blt k 4) (hiN k) 0
def za2 (ds:List (Option Nat)) (tb:Tb) (b:Builtin) (argTypes:Array TypeId) (args:List Operand):Op':=
 let t0:=argTypes.getD 0 0
 match b,args with
 | .len,[x]=>match und tb t0 with
  | .string=>ok1 ds x ze1
  | .slice _=>ok1 ds x zcm
  | .map _ _=>ok1 ds x zzc
  | .array n _=>zzb n
  | .pointer a=>match und tb a with | .array n _=>zzb n | _=>oBad
  | _=>oBad
 | .cap,[x]=>match und tb t0 with | .slice _=>ok1 ds x oCap | _=>oBad
 | .min,[x,y]=>match und tb t0 with | .int k=>ok2 ds x y (oMin (zad k) (upN (zad k)) (moN (zad k))) | _=>oBad
 | .max,[x,y]=>match und tb t0 with | .int k=>ok2 ds x y (oMax (zad k) (upN (zad k)) (moN (zad k))) | _=>oBad
 | .clear,[x]=>match und tb t0 with
  | .map _ _=>ok1 ds x ztl
  | .slice e=>match tb.types.get (e + 1),zb4 tb e with
   | some i,some z=>bif okCs z && Nat.beq (lenC z) i.size then ok1 ds x (ztm i.size z) else oBad
   | _,_=>oBad
  | _=>oBad
 | .append,[x,y]=>match und tb t0 with
  | .slice e=>match tb.types.get (e + 1),zb4 tb e with
   | some i,some z=>(match und tb (argTypes.getD 1 0) with
    | .int _=>ok2 ds x y (zp8 i.size i.bytes (isU8 tb e) z)
    | .string=>bif isU8 tb e then ok2 ds x y (oAppB e) else oBad
    | .slice _=>ok2 ds x y (zaq i.size i.bytes)
    | _=>oBad)
   | _,_=>oBad
  | _=>oBad
 | .unsafeSliceData,[x]=>match und tb t0 with | .slice _=>ok1 ds x oUsd | _=>oBad
 | .unsafeString,[x,y]=>match und tb t0 with | .pointer e=>bif isU8 tb e then ok2 ds x y (oUst e) else oBad | _=>oBad
 | .copy,[x,y]=>match und tb t0 with | .slice e=>ok2 ds x y (zfm (size tb e)) | _=>oBad
 | _,_=>oBad
def tag1 (tb:Tb) (t:TypeId):Option Nat:=match und tb t with
 | .bool=>some 9 | .int k=>some (zad k) | .string=>some 8
 | _=>none
def znx (tb:Tb):Nat→List Field→Option (List Nat)
 | _,[]=>some []
 | o, f :: l => bif decide (f.name = "_") || !(Nat.beq f.offset o) then none else match tag1 tb f.type, znx tb (o + 1) l with | some a, some b => some (a :: b) | _, _ => none
def zki (ds:List (Option Nat)) (op:BinOp) (f:AV→AV→Option Bool) (x y:Operand):Op':=match op with
 | .eql=>ok2 ds x y (oEq f)
 | .neq=>ok2 ds x y (oNe f)
 | _=>oBad
def eqDyn (tb:Tb) (s:Nat) (a b:AV):Option Bool:=match tb.types.get (s + 1) with
 | some i=>br i.comparable (match zj8 tb.types i with | .int k=>eqI (zad k) a b | _=>none) none
 | none=>none
def zq4 (tb:Tb):AV→AV→Option Bool
 | .nili,.iface _ _=>some false | .iface _ _,.nili=>some false
 | .iface s a,.iface u b=>br (Nat.beq s u) (eqDyn tb s a b) (some false)
 | _,_=>none
def zm1 (ds:List (Option Nat)) (tb:Tb) (op:BinOp) (t:TypeId) (x y:Operand):Op':=
 match und tb t with
 | .int k=>
  let kd:=zad k
  match op with
  | .add=>ok2 ds x y (oAdd kd (moN kd))
  | .sub=>ok2 ds x y (oSub kd (moN kd))
  | .mul=>ok2 ds x y (oMul kd (moN kd))
  | .quo=>ok2 ds x y (oQuo kd (hiN kd))
  | .rem=>ok2 ds x y (oRem kd (hiN kd))
  | .and=>ok2 ds x y (oAnd kd)
  | .or=>ok2 ds x y (oOr kd)
  | .xor=>ok2 ds x y (oXor kd)
  | .andNot=>ok2 ds x y (oClr kd (moN kd))
  | .shl=>ok2 ds x y (oShl kd (biN kd) (moN kd))
  | .shr=>ok2 ds x y (oShr kd (biN kd) (hiN kd))
  | .lss=>ok2 ds x y (oLt kd (upN kd) (moN kd))
  | .leq=>ok2 ds x y (oLe kd (upN kd) (moN kd))
  | .gtr=>ok2 ds y x (oLt kd (upN kd) (moN kd))
  | .geq=>ok2 ds y x (oLe kd (upN kd) (moN kd))
  | .eql=>ok2 ds x y (oEq (eqI kd))
  | .neq=>ok2 ds x y (oNe (eqI kd))
 | .string=>match op with
  | .add=>ok2 ds x y oCat
  | .lss=>ok2 ds x y oLtS
  | .leq=>ok2 ds x y oLeS
  | .gtr=>ok2 ds y x oLtS
  | .geq=>ok2 ds y x oLeS
  | .eql=>ok2 ds x y (oEq eqS)
  | .neq=>ok2 ds x y (oNe eqS)
  | _=>oBad
 | .interface _=>match op,y with
  | .eql,.const .nilIface=>ok1 ds x oEqN
  | .neq,.const .nilIface=>ok1 ds x oNeN
  | .eql,_=>ok2 ds x y (oEq (zq4 tb))
  | .neq,_=>ok2 ds x y (oNe (zq4 tb))
  | _,_=>oBad
 | .struct fs=>bif tb.eqf t then (match znx tb 0 fs.toList with
  | some ts=>zki ds op (eqSt ts) x y
  | none=>oBad) else oBad
 | .bool=>zki ds op eqB x y
 | .pointer e=>bif Nat.blt 0 (size tb e) then zki ds op eqP2 x y else zki ds op eqP x y
 | .slice _=>zki ds op eqSl x y
 | .map _ _=>zki ds op eqM x y
 | .func _ _ _=>zki ds op eqF x y
 | _=>oBad
def zbb (ds:List (Option Nat)) (tb:Tb) (o:Op):Op':=
 match o with
 | .move x | .assign x=>ok1 ds x oMv
 | .pick c a b=>ok3 ds c a b zan
 | .alloc t=>match und tb t with
  | .array n e=>bif isU8 tb e then oNew (.bytes n 0) else match zb4 tb t with | some z=>oNew (zl4 (zvs tb t) t z) | none=>oBad
  | _=>match zb4 tb t with | some z=>oNew (zl4 (zvs tb t) t z) | none=>oBad
 | .box _ x=>ok1 ds x oBox
 | .build t ps=>match zb4 tb t,und tb t with
  | some z,.struct fs=>match zeq ds tb fs ps.toList with | some l=>zai z l | none=>oBad
  | some z,.array _ e=>match zf1 ds (size tb e) ps.toList with | some l=>zai z l | none=>oBad
  | _,_=>oBad
 | .buildSlice t n ps=>match und tb t,zcw ds ps.toList with
  | .slice e,some l=>match zb4 tb e with
   | some z=>bif isU8 tb e then zea n l else zah n (size tb e) z l
   | none=>oBad
  | _,_=>oBad
 | .insert t m k x | .mapUpdate t m k x=>match und tb t with | .map kt _=>(match und tb kt with | .int _=>ok3 ds m k x (zgr false) | .string=>ok3 ds m k x (zgr true) | _=>oBad) | _=>oBad
 | .load t a=>match und tb t with | .invalid=>oBad | _=>bif isAg tb t then ok1 ds a (zbs (size tb t)) else ok1 ds a zaf
 | .store t a x=>ok2 ds a x (zdi (size tb t))
 | .nilCheck x=>ok1 ds x zaz
 | .binOp op t x y _=>zm1 ds tb op t x y
 | .unOp op t x=>match op,und tb t with | .not,_=>ok1 ds x oNot | .neg,.int k=>ok1 ds x (oNeg (zad k) (moN (zad k))) | _,_=>oBad
 | .convert s d x=>match und tb s,und tb d with
  | .int _,.int k=>ok1 ds x (zm8 (zad k) (moN (zad k)))
  | .string,.string=>ok1 ds x oStr
  | .string,.slice e=>bif isU8 tb e then ok1 ds x zi4 else oBad
  | .slice e,.string=>bif isU8 tb e then ok1 ds x zdd else oBad
  | .slice _,.slice e=>bif s == d && isU8 tb e then ok1 ds x zv3 else oBad
  | .pointer t,.unsafePointer=>bif Nat.blt 0 (size tb t) then ok1 ds x oP2U else oBad
  | .unsafePointer,.pointer u=>bif Nat.blt 0 (size tb u) then ok1 ds x (oU2P u (size tb u)) else oBad
  | _,_=>oBad
 | .makeInterface t x=>match und tb t with | .interface _=>oBad | _=>ok1 ds x (zv4 t)
 | .makeFunc (.func f) first caps=>bif first.isEmpty then (match zfc ds caps.toList with | some l=>zfn f l | none=>oBad) else oBad
 | .makeMap _ none=>zk2
 | .makeSlice t l c=>match und tb t with
  | .slice e=>match tb.types.get (e + 1),zb4 tb e with
   | some i,some z=>bif isU8 tb e then ok2 ds l c zgs else ok2 ds l c (zv5 i.size i.bytes z)
   | _,_=>oBad
  | _=>oBad
 | .slice t x lo hi mx=>match und tb t,lowS ds x,lowO ds lo,lowO ds hi,lowO ds mx with
  | .string,some x,some lo,some hi,some none=>za1 x lo hi
  | .slice e,some x,some lo,some hi,some mx=>zap (size tb e) x lo hi mx
  | .array n e,some x,some lo,some hi,some mx=>zei n (size tb e) x lo hi mx
  | .pointer a,some x,some lo,some hi,some mx=>match und tb a with
   | .array n e=>zei n (size tb e) x lo hi mx
   | _=>oBad
  | _,_,_,_,_=>oBad
 | .fieldAddr s x f=>match und tb s with
  | .struct fs=>match nthL f fs.toList with
   | some f=>bif Nat.beq (size tb f.type) 0 then oBad else ok1 ds x (zaj f.offset)
   | none=>oBad
  | _=>oBad
 | .field t x f=>match und tb t with
  | .struct fs=>match nthL f fs.toList with
   | some f=>ok1 ds x (oPart f.offset (bif isAg tb f.type then some (size tb f.type) else none))
   | none=>oBad
  | _=>oBad
 | .indexAddr t x i=>match und tb t with
  | .array n e=>ok2 ds x i (zeh n (size tb e))
  | .slice e=>ok2 ds x i (zcl (size tb e))
  | _=>oBad
 | .index t x i=>match und tb t with
  | .array n e=>ok2 ds x i (zv1 n (size tb e) (isAg tb e))
  | .string=>ok2 ds x i zv2
  | _=>oBad
 | .lookup t m k ok=>match und tb t with
  | .map kt e=>match zhr tb e,und tb kt with | some z,.int _=>ok2 ds m k (zc7 false z ok) | some z,.string=>ok2 ds m k (zc7 true z ok) | _,_=>oBad
  | _=>oBad
 | .extract t i=>ok1 ds t (oExt · i)
 | .typeAssert x _ a true=>match und tb a with
  | .interface want=>ok1 ds x (zij (lenL tb.list) (zdb want tb.list 0))
  | _=>match zhr tb a with | some z=>ok1 ds x (ztk a z) | none=>oBad
 | .call c=>match zfc ds c.args.toList with
  | none=>oBad
  | some args=>match c.callee with
   | .value (.func f)=>zax f args
   | .value f=>ok1 ds f (zc1 · args)
   | .invoke r m=>ok1 ds r (zc6 (ze2 m tb.prom) (zcf tb m tb.list 0) · args)
   | .builtin b=>za2 ds tb b c.argTypes c.args.toList
 | _=>oBad
def zc3 (ds:List (Option Nat)) (cur:Nat):Option (Nat × Bool)→Option (Option (Nat × Bool))
 | none=>some none
 | some (j,b)=>bif Nat.blt j cur then (match nthL (cur - 1 - j) ds with
  | some (some d)=>(match zc0 d ds 0 with | some p=>bif Nat.beq p (cur - 1 - j) then some (some (p,b)) else none | none=>none)
  | _=>none) else none
def zhw:LOper:={ dst:=0,guard:=none,op:=oBad }
def zd8 (nt:Nat):Option Nat→Bool | none=>true | some d=>Nat.blt d nt
def zcc (g:List Nat):Option Nat→Nat | some d=>bif memN d g then d + 1 else 0 | none=>0
def lowOper (nt:Nat) (g:List Nat) (tb:Tb) (ds:List (Option Nat)) (cur:Nat) (o:Oper):LOper:=
 match zc3 ds cur o.guard with
 | some gd=>bif zd8 nt o.dst then { dst:=zcc g o.dst,guard:=gd,op:=zbb ds tb o.op } else zhw
 | none=>zhw
def zp5 (nt:Nat) (g:List Nat) (tb:Tb):List (Option Nat)→Nat→List Oper→List LOper
 | _,_,[]=>[]
 | ds,cur,o :: l=>lowOper nt g tb ds cur o :: zp5 nt g tb (o.dst :: ds) (cur + 1) l
def addN (n:Nat) (l:List Nat):List Nat:=bif memN n l then l else n :: l
def zgf (ds:List (Option Nat)) (x:Operand) (acc:List Nat):List Nat:=match x with
 | .tmp t=>match zc0 t ds 0 with | some _=>acc | none=>addN t acc
 | _=>acc
def zj0 (ds:List (Option Nat)):List Operand→List Nat→List Nat
 | [],acc=>acc
 | x :: l,acc=>zj0 ds l (zgf ds x acc)
def zeb:List (Option Nat)→List Oper→List Nat→List Nat
 | _,[],acc=>acc
 | ds,o :: l,acc=>zeb (o.dst :: ds) l (zj0 ds o.op.operands.toList acc)
def zc2:Code→List Nat→List Nat
 | .region _ ops _,acc=>zeb [] ops.toList acc
 | .seq a b,acc=>zc2 b (zc2 a acc)
 | .cond c a b,acc=>zc2 b (zc2 a (zgf [] c acc))
 | .block _ b,acc=>zc2 b acc
 | .loop b,acc=>zc2 b acc
 | .rangeFunc f _ a b,acc=>zc2 b (zc2 a (zgf [] f acc))
 | .scope b,acc=>zc2 b acc
 | _,acc=>acc
def zj1:List ResultVar→List Nat→List Nat
 | [],acc=>acc
 | .tmp t :: l,acc=>zj1 l (addN t acc)
 | .cell t _ :: l,acc=>zj1 l (addN t acc)
def zgq (tb:Tb):ResultVar→Option LRes
 | .tmp t=>some (.tmp (t + 1))
 | .cell t ty=>match und tb ty with | .invalid=>none | _=>some (bif isAg tb ty then .cellN (t + 1) (size tb ty) else .cell1 (t + 1))
def zfa (tb:Tb):List ResultVar→Option (List LRes)
 | []=>some []
 | r :: l=>match zgq tb r,zfa tb l with | some r,some l=>some (r :: l) | _,_=>none
end
end Go.VE
namespace Go.VE
noncomputable section
open Go
def zbm (tb:Tb):Op→Nat
 | .load _ _=>1
 | .lookup _ _ _ _=>1
 | .slice t _ _ _ _=>match und tb t with | .slice _=>1 | _=>2
 | .convert s d _=>match und tb s,und tb d with
  | _,.slice _=>0
  | _,.unsafePointer=>0
  | .unsafePointer,_=>0
  | .slice _,_=>1
  | _,_=>2
 | .move _ | .assign _ | .pick _ _ _ | .build _ _ | .nilCheck _ | .binOp _ _ _ _ _ | .unOp _ _ _ | .makeInterface _ _ | .makeFunc _ _ _ | .fieldAddr _ _ _ | .field _ _ _
 | .indexAddr _ _ _ | .index _ _ _ | .typeAssert _ _ _ _ | .extract _ _=>2
 | .call c=>match c.callee with
  | .builtin .len=>match und tb (c.argTypes.getD 0 0) with | .map _ _=>1 | _=>2
  | .builtin .cap | .builtin .min | .builtin .max=>2
  | _=>0
 | _=>0
def zir (acc:List Nat):List Edge→Nat→Nat
 | [],s=>s
 | e :: l,s=>zir acc l (bif Region.binds .any e then Nat.lor (Nat.lor s (2 ^ e.on)) ((nthL e.on acc).getD 0) else s)
def zff:List Oper→List Nat→List Nat
 | [],acc=>acc
 | o :: l,acc=>zff l (acc ++ [zir acc o.after.toList 0])
def befs (ops:List Oper):List Nat:=zff ops []
def zbg (bs:List Nat) (i j:Nat):Bool:=((nthL i bs).getD 0).testBit j
def effs:List Nat→Nat→List Nat
 | [],_=>[]
 | c :: l,k=>bif Nat.beq c 0 then k :: effs l (k + 1) else effs l (k + 1)
def zrx (bs:List Nat) (m i:Nat):List Nat→List Nat→List Nat
 | done,[]=>bif done.all (fun c=>!zbg bs c i) then [m] else []
 | done,c :: rest=>(bif (done.all fun d=>!zbg bs d i) && ((c :: rest).all fun d=>!zbg bs i d) then [c] else []) ++ zrx bs m i (done ++ [c]) rest
def ze0 (m i:Nat):List Nat→Nat
 | []=>m
 | c :: l=>bif Nat.blt c i then ze0 m i l else c
def zka (bs:List Nat) (m i:Nat) (es:List Nat):List Nat:=(zrx bs m i [] es).filter fun q=>!Nat.beq q (ze0 m i es)
structure DOper where
 lo:LOper
 cls:Nat
 qs:List Nat
def finK:K:=fun v h n=>.fin v h n
def zml (r:RR) (f:AV→H→Nat→RR):RR:=
 @RR.rec (fun _=>RR) .fail (fun _ _ _=>.fail) (fun _ _ _ _=>.fail) (fun _ _ _=>.fail) (fun v h n=>f v h n) r
def znv (cls:Nat) (m:K→RR) (k:K):RR:=brW (brW true (Nat.beq cls 0) hi31) (zml (m finK) k) (m k)
abbrev Sts:=List (H × Nat)
def runD (call:zbc) (e0:Env) (fin:List AV→Sts→Env→H→Nat→RR) (l:List DOper):List AV→Sts→Env→H→Nat→RR:=
 @List.rec DOper (fun _=>List AV→Sts→Env→H→Nat→RR) (fun ls sts e h n=>fin ls sts e h n)
  (fun o _ go ls sts e h n=>z1i (za4 ls o.lo.guard) (fun k h n=>znv o.cls (o.lo.op call ls e0 h n) k)
   (fun v h' n'=>go (v :: ls) ((h,n) :: sts) (putE e o.lo.dst v) h' n') h n) l
def eqAV (v:AV):AV→Bool:=@AV.rec (fun _=>AV→Bool)
 (fun w=>match w with | .undef=>true | _=>false)
 (fun a0 a1 w=>match w with | .int j x=>br (Nat.beq a0 j) (Nat.beq a1 x) false | _=>false)
 (fun a0 w=>match w with | .bool x=>br a0 x (!x) | _=>false)
 (fun a0 a1 w=>match w with | .ptr c p=>br (Nat.beq a0 c) (Nat.beq a1 p) false | _=>false)
 (fun a0 a1 a2 a3 a4 w=>match w with | .sl b o l c x=>br (Nat.beq a0 b) (br (Nat.beq a1 o) (br (Nat.beq a2 l) (br (Nat.beq a3 c) (br a4 x (!x)) false) false) false) false | _=>false)
 (fun a0 a1 w=>match w with | .str m y=>br (Nat.beq a0 m) (Nat.beq a1 y) false | _=>false)
 (fun a0 _ i0 w=>match w with | .iface u v=>br (Nat.beq a0 u) (i0 v) false | _=>false)
 (fun w=>match w with | .nilp=>true | _=>false)
 (fun w=>match w with | .nils=>true | _=>false)
 (fun w=>match w with | .nili=>true | _=>false)
 (fun w=>match w with | .nilm=>true | _=>false)
 (fun w=>match w with | .nilf=>true | _=>false)
 (fun a0 w=>match w with | .map c=>Nat.beq a0 c | _=>false)
 (fun a0 _ i0 w=>match w with | .func g d=>br (Nat.beq a0 g) (i0 d) false | _=>false)
 (fun _ i0 w=>match w with | .agg l=>i0 l | _=>false)
 (fun _ i0 w=>match w with | .tup l=>i0 l | _=>false)
 (fun w=>match w with | .nl=>true | _=>false)
 (fun _ _ i0 i1 w=>match w with | .cons x l=>br (i0 x) (i1 l) false | _=>false)
 (fun _ w=>false)
 (fun _ _ _ w=>false) v
def atS (q:Nat) (sts:Sts) (f:H→Nat→RR):RR:=match nthL q sts with | some s=>f s.1 s.2 | none=>.fail
def zlo (op:H→Nat→K→RR) (v:AV) (sts:Sts) (next:RR) (qs:List Nat):RR:=
 @List.rec Nat (fun _=>RR) next (fun q _ r=>atS q sts fun h n=>op h n fun v' _ _=>br (eqAV v v') r .fail) qs
def chkG (w:Bool) (a:RR→RR) (r:RR):RR:=brW (brW true w hi31) (a r) r
def chkD (call:zbc) (e0:Env) (sts:Sts) (next:RR) (l:List DOper):List AV→RR:=
 @List.rec DOper (fun _=>List AV→RR) (fun _=>next)
  (fun o _ go ls=>@List.rec AV (fun _=>RR) .fail (fun v ls _=>chkG (za4 ls o.lo.guard) (fun r=>zlo (o.lo.op call ls e0) v sts r o.qs) (go ls)) ls) l
def z0q (l rl:List DOper):X:=fun L e h n=>runD L.call e (fun ls sts e' h' n'=>chkD L.call e ((h',n') :: sts) (.nrm e' h' n') rl ls) l [] [] e h n
def zm7 (l:Sts):Nat→Bool:=@List.rec (H × Nat) (fun _=>Nat→Bool) (fun _=>true) (fun s _ go m=>br (Nat.ble s.2 m) (go s.2) false) l
def zu8 (l rl:List DOper):X:=fun L e h n=>runD L.call e (fun ls sts e' h' n'=>br (zm7 sts n') (chkD L.call e ((h',n') :: sts) (.nrm e' h' n') rl ls) .fail) l [] [] e h n
def lowD (nt:Nat) (g:List Nat) (tb:Tb) (bs:List Nat) (m:Nat) (es:List Nat):List (Option Nat)→Nat→List Oper→List DOper
 | _,_,[]=>[]
 | ds,cur,o :: l=>
  { lo:=lowOper nt g tb ds cur o,cls:=zbm tb o.op,qs:=bif Nat.beq (zbm tb o.op) 1 then (zka bs m cur es).map (m - ·) else [] } :: lowD nt g tb bs m es (o.dst :: ds) (cur + 1) l
def zd6 (nt:Nat) (g:List Nat) (tb:Tb) (ops:List Oper):List DOper:=lowD nt g tb (befs ops) ops.length (effs (ops.map fun o=>zbm tb o.op) 0) [] 0 ops
def zqr:List Operand→List Nat
 | []=>[]
 | .tmp t :: l=>t :: zqr l
 | _ :: l=>zqr l
def zqk (bs:List Nat) (i t:Nat):List Oper→Nat→Bool
 | [],_=>true
 | o :: l,j=>(bif o.dst == some t then (bif Nat.blt j i then zbg bs i j else Nat.beq i j || zbg bs j i) else true) && zqk bs i t l (j + 1)
def zf2 (bs:List Nat) (ops:List Oper) (i:Nat) (o:Oper):Bool:=
 (o.after.toList.all fun e=>!Region.binds .any e || Nat.blt e.on i) && ((zqr o.op.operands.toList).all fun t=>zqk bs i t ops 0) &&
 (match o.guard with | none=>true | some (j,_)=>zbg bs i j) && (match o.op with | .select _ _=>false | _=>true)
def zhe (bs:List Nat) (all:List Oper):List Oper→Nat→Bool
 | [],_=>true
 | o :: l,i=>zf2 bs all i o && zhe bs all l (i + 1)
def zjn (tb:Tb):Op→Bool
 | .alloc _=>true
 | .buildSlice t _ _=>match und tb t with | .slice _=>true | _=>false
 | .convert s d _=>match und tb s,und tb d with | .slice _,.slice _=>true | _,_=>false
 | _=>false
def zsm (bs es:List Nat):List Nat:=es.filter fun d=>es.any fun c=>Nat.blt c d && !zbg bs d c
def isBsl:Op→Bool
 | .buildSlice _ _ _=>true
 | _=>false
def bslAt (ops:List Oper) (t f:Nat):Bool:=match nthL f ops with | some o=>o.dst == some t && isBsl o.op | none=>false
def mkOk (es:List Nat) (ops:List Oper) (d:Nat):Op→Bool
 | .convert _ _ (.tmp t)=>es.any fun f=>Nat.blt f d && (es.all fun c=>Nat.ble c f || Nat.ble d c) && bslAt ops t f
 | .convert _ _ _=>false
 | _=>true
def zxl (tb:Tb) (ops:List Oper):List Nat:=effs (ops.map fun o=>zbm tb o.op) 0
def zxm (tb:Tb) (ops:List Oper) (d:Nat):Bool:=match nthL d ops with | some o=>zjn tb o.op && o.guard.isNone && mkOk (zxl tb ops) ops d o.op | none=>false
def zp1 (bs es fs:List Nat):Nat→Bool
 | 0=>true
 | j + 1=>(memN j fs || fs.all fun f=>!zbg bs j f || es.all fun c=>!Nat.blt c f || zbg bs j c) && zp1 bs es fs j
def zqc:List Nat→Bool
 | []=>true
 | d :: l=>!memN d l && zqc l
def zih (tb:Tb) (ops:List Oper):List Nat:=zsm (befs ops) (zxl tb ops)
def zif (tb:Tb) (ops:List Oper):Bool:=
 zhe (befs ops) ops ops 0 && ((zih tb ops).all (zxm tb ops) && zp1 (befs ops) (zxl tb ops) (zih tb ops) ops.length) && zqc (ops.filterMap (·.dst))
def zld (nt:Nat) (g:List Nat) (tb:Tb) (ops:List Oper):X:=bif (zih tb ops).isEmpty then z0q (zd6 nt g tb ops) (zd6 nt g tb ops).reverse else zu8 (zd6 nt g tb ops) (zd6 nt g tb ops).reverse
def zco (tb:Tb):Code→Bool
 | .region _ ops true=>zif tb ops.toList
 | .seq a b | .cond _ a b | .rangeFunc _ _ a b=>zco tb a && zco tb b
 | .block _ b | .loop b | .scope b=>zco tb b
 | _=>true
end
end Go.VE
namespace Go.VE
noncomputable section
open Go
inductive GOp where
 | pl (o:LOper)
 | yl (dst:Nat) (guard:Option (Nat × Bool)) (f:Sx) (args:List Sx)
def ofRR (p:Nat) (r:RR):GR:=
 @RR.rec (fun _=>GR) .fail (fun e h n=>.nrm e h n p) (fun id e h n=>.ext id e h n p) (fun e h n=>.ret e h n p) (fun _ _ _=>.fail) r
def zye (r:RR) (f:AV→H→Nat→GR):GR:=
 @RR.rec (fun _=>GR) .fail (fun _ _ _=>.fail) (fun _ _ _ _=>.fail) (fun _ _ _=>.fail) (fun v h n=>f v h n) r
def zx8 (r:RR) (k:Bool→H→Nat→Nat→GR):GR:=
 @RR.rec (fun _=>GR) .fail (fun _ h n=>k true h n 0) (fun id _ h n=>frc (id + 2) fun p=>k false h n p) (fun _ h n=>k false h n 1) (fun _ _ _=>.fail) r
def zy1 (b:Nat) (v:AV):Bool:=match v with | .yld c=>Nat.beq c b | _=>false
def zrq (k:Env→H→Nat→Nat→GR) (r:GR):GR:=
 @GR.rec (fun _=>GR) .fail k (fun id e h n p=>.ext id e h n p) (fun e h n p=>.ret e h n p) r
def outG (id:Nat) (r:GR):GR:=
 @GR.rec (fun _=>GR) .fail (fun e h n p=>.nrm e h n p) (fun j e h n p=>br (Nat.beq j id) (.nrm e h n p) (.ext j e h n p)) (fun e h n p=>.ret e h n p) r
abbrev GoT:=List AV→Env→H→Nat→Nat→GR
def stepG (call:zbc) (Y:YT) (b:Nat) (o:GOp) (go:GoT):GoT:=fun ls e h n p=>
 @GOp.casesOn (fun _=>GR) o
  (fun o=>br (za4 ls o.guard) (zye (o.op call ls e h n finK) fun v h n=>go (v :: ls) (putE e o.dst v) h n p) (go (.undef :: ls) (putE e o.dst .undef) h n p))
  (fun d gd f args=>br (za4 ls gd) (br (zy1 b (f ls e)) (br (Nat.beq p 0) (zx8 (Y (evL args ls e) h n) fun t h n p=>go (.bool t :: ls) (putE e d (.bool t)) h n p) .fail) .fail) (go (.undef :: ls) (putE e d .undef) h n p))
def runG (call:zbc) (Y:YT) (b:Nat) (l:List GOp):GoT:=
 @List.rec GOp (fun _=>GoT) (fun _ e h n p=>.nrm e h n p) (fun o _ go ls e h n p=>stepG call Y b o go ls e h n p) l
def zvy (b:Env→H→Nat→Nat→GR) (f:Nat):Env→H→Nat→Nat→GR:=
 @Nat.rec (fun _=>Env→H→Nat→Nat→GR) (fun _ _ _ _=>.fail) (fun _ go e h n p=>zrq go (b e h n p)) f
def gBad:XG:=fun _ _ _ _ _ _ _=>.fail
def gOps (l:List GOp):XG:=fun call Y b e h n p=>runG call Y b l [] e h n p
def gX (x:X):XG:=fun call _ _ e h n p=>ofRR p (x ⟨call,fun _=>none⟩ e h n)
def gSeq (x y:XG):XG:=fun call Y b e h n p=>zrq (fun e h n p=>y call Y b e h n p) (x call Y b e h n p)
def condG (v:AV) (x y:GR):GR:=match v with | .bool t=>br t x y | _=>.fail
def zkf (c:Sx) (x y:XG):XG:=fun call Y b e h n p=>condG (c [] e) (x call Y b e h n p) (y call Y b e h n p)
def zg6 (id:Nat) (x:XG):XG:=fun call Y b e h n p=>outG id (x call Y b e h n p)
def zsq (x:XG):XG:=fun call Y b e h n p=>zvy (x call Y b) 1000000 e h n p
def zf0 (nt:Nat) (g:List Nat) (tb:Tb) (ds:List (Option Nat)) (cur:Nat) (o:Oper):GOp:=match o.op with
 | .call c=>match c.callee with
  | .value (.tmp t)=>match zc3 ds cur o.guard,zfc ds c.args.toList with
   | some gd,some args=>bif zd8 nt o.dst then .yl (zcc g o.dst) gd (lowT ds t) args else .pl zhw
   | _,_=>.pl zhw
  | _=>.pl (lowOper nt g tb ds cur o)
 | _=>.pl (lowOper nt g tb ds cur o)
def zdn (nt:Nat) (g:List Nat) (tb:Tb):List (Option Nat)→Nat→List Oper→List GOp
 | _,_,[]=>[]
 | ds,cur,o :: l=>zf0 nt g tb ds cur o :: zdn nt g tb (o.dst :: ds) (cur + 1) l
def zd7 (nt:Nat) (g:List Nat) (tb:Tb):Code→XG
 | .skip=>gX zaa
 | .region _ ops false=>gOps (zdn nt g tb [] 0 ops.toList)
 | .region _ ops true=>gX (zld nt g tb ops.toList)
 | .seq a b=>gSeq (zd7 nt g tb a) (zd7 nt g tb b)
 | .cond c a b=>match lowS [] c with | some c=>zkf c (zd7 nt g tb a) (zd7 nt g tb b) | none=>gBad
 | .block id b=>zg6 id (zd7 nt g tb b)
 | .loop b=>zsq (zd7 nt g tb b)
 | .exit id=>gX (zae id)
 | .ret=>gX xRet
 | .label _=>gX zaa
 | _=>gBad
def ztf (tb:Tb) (fn:Func):Option LG:=
 match fn.body with
 | some c=>some { ok:=Nat.blt fn.ntmps 255 && fn.results.isEmpty,body:=zd7 fn.ntmps (zc2 c []) tb c }
 | none=>none
end
end Go.VE
namespace Go.VE
noncomputable section
open Go
def lowC (nt:Nat) (g:List Nat) (tb:Tb):Code→X
 | .skip=>zaa
 | .region _ ops false=>xOps (zp5 nt g tb [] 0 ops.toList)
 | .region _ ops true=>zld nt g tb ops.toList
 | .seq a b=>xSeq (lowC nt g tb a) (lowC nt g tb b)
 | .cond c a b=>match lowS [] c with | some c=>xCond c (lowC nt g tb a) (lowC nt g tb b) | none=>xBad
 | .block id b=>zx7 id (lowC nt g tb b)
 | .loop b=>zxi (lowC nt g tb b)
 | .rangeFunc f ps a b=>match lowS [] f,ps.toList with | some f,[t]=>bif Nat.blt t nt then xRf f (zcc g (some t)) (lowC nt g tb a) (lowC nt g tb b) else xBad | _,_=>xBad
 | .exit id=>zae id
 | .scope b=>lowC nt g tb b
 | .label _=>zaa
 | .goto _=>xBad
 | .ret=>xRet
 | .refuse _=>xBad
def lowF (tb:Tb) (fn:Func):Option LF:=
 match fn.body,zfa tb fn.results.toList with
 | some c,some rs=>bif Nat.blt fn.ntmps 255 then some { results:=rs,body:=lowC fn.ntmps (zj1 fn.results.toList (zc2 c [])) tb c } else none
 | _,_=>none
def tbP (p:Program) (prom:List (Nat × String × Nat)):Tb:={ types:=T.ofL p.types.toList 1 .nil,list:=p.types.toList,prom,eqf:=fun t=>!p.stoodInHeld t && !p.eqGuardType p.depth t }
end
end Go.VE
