/- The evaluator, part 1: definitions and their laws, over any program. No condition. -/
import Derived.Calls
set_option linter.all false
namespace Go.VE
noncomputable section
def br {β : Type} (c : Bool) (a b : β) : β := @Bool.casesOn (fun _ => β) c b a
def frcI {β : Type} (x : Nat) (k : Nat → β) : β := k x
def frc {β : Type} (x : Nat) (k : Nat → β) : β := @Nat.rec (fun _ => β) (k 0) (fun m _ => k (Nat.succ m)) x
inductive T (α : Type) where
  | nil
  | node (l : T α) (v : Option α) (r : T α)
  deriving Inhabited
def T.getI {α : Type} : T α → Nat → Option α
  | .nil, _ => none
  | .node l v r, k => bif Nat.beq k 1 then v else bif Nat.beq (k % 2) 0 then l.getI (k / 2) else r.getI (k / 2)
def T.get {α : Type} (t : T α) : Nat → Option α :=
  @T.rec α (fun _ => Nat → Option α) (fun _ => none)
    (fun _ v _ gl gr k => br (Nat.beq k 1) v (br (Nat.beq (k % 2) 0) (gl (k / 2)) (gr (k / 2)))) t
def T.oneI {α : Type} (v : Option α) : Nat → Nat → T α
  | 0, _ => .nil
  | f + 1, k => bif Nat.beq k 1 then .node .nil v .nil else bif Nat.beq (k % 2) 0 then .node (T.oneI v f (k / 2)) none .nil else .node .nil none (T.oneI v f (k / 2))
def T.one {α : Type} (v : Option α) (f : Nat) : Nat → T α :=
  @Nat.rec (fun _ => Nat → T α) (fun _ => .nil)
    (fun _ g k => br (Nat.beq k 1) (.node .nil v .nil) (br (Nat.beq (k % 2) 0) (.node (g (k / 2)) none .nil) (.node .nil none (g (k / 2))))) f
def T.putI {α : Type} (v : Option α) : T α → Nat → T α
  | .nil, k => T.oneI v 64 k
  | .node l w r, k => bif Nat.beq k 1 then .node l v r else bif Nat.beq (k % 2) 0 then .node (l.putI v (k / 2)) w r else .node l w (r.putI v (k / 2))
def T.put {α : Type} (v : Option α) (t : T α) : Nat → T α :=
  @T.rec α (fun _ => Nat → T α) (fun k => T.one v 64 k)
    (fun l w r gl gr k => br (Nat.beq k 1) (.node l v r) (br (Nat.beq (k % 2) 0) (.node (gl (k / 2)) w r) (.node l w (gr (k / 2))))) t
inductive AV where
  | undef
  | int (k u : Nat)
  | bool (b : Bool)
  | ptr (b off : Nat)
  | sl (b off len cap : Nat) (ex : Bool)
  | str (n x : Nat)
  | iface (t : Nat) (v : AV)
  | nilp | nils | nili | nilm | nilf
  | map (b : Nat)
  | func (f : Nat) (caps : AV)
  | agg (l : AV)
  | tup (l : AV)
  | nl | cons (a l : AV)
  | yld (b : Nat)
  | ukn (k m a : Nat)
  deriving Inhabited
inductive AO where
  | cells (n es : Nat) (t : T AV)
  | bytes (n x : Nat)
  | map (l : List (AV × AV))
  | var (ty n : Nat) (t : T AV)
  | rowb (ty m n x : Nat)
  deriving Inhabited
def okC : AV → Bool
  | .undef => false | .agg _ => false | .tup _ => false | .nl => false | .cons _ _ => false | .yld _ => false
  | _ => true
def okCs : AV → Bool
  | .cons v l => br (okC v) (okCs l) false
  | .nl => true
  | _ => false
def fitO : AO → Bool
  | .cells n _ _ => Nat.ble n 140737488355328
  | .bytes n _ => Nat.ble n 140737488355328
  | .map _ => true
  | .var _ n _ => Nat.ble n 140737488355328
  | .rowb _ _ n _ => Nat.ble n 140737488355328
def KG : Nat := 10
abbrev H := T AO
abbrev Env := T AV
inductive RR where
  | fail
  | nrm (e : Env) (h : H) (n : Nat)
  | ext (id : Nat) (e : Env) (h : H) (n : Nat)
  | ret (e : Env) (h : H) (n : Nat)
  | fin (v : AV) (h : H) (n : Nat)
  deriving Inhabited
abbrev K := AV → H → Nat → RR
def asInt (v : AV) (f : Nat → Nat → RR) : RR :=
  @AV.casesOn (fun _ => RR) v .fail f (fun _ => .fail) (fun _ _ => .fail) (fun _ _ _ _ _ => .fail) (fun _ _ => .fail) (fun _ _ => .fail) .fail .fail .fail .fail .fail (fun _ => .fail) (fun _ _ => .fail) (fun _ => .fail) (fun _ => .fail) .fail (fun _ _ => .fail) (fun _ => .fail) (fun _ _ _ => .fail)
def asBool (v : AV) (f : Bool → RR) : RR :=
  @AV.casesOn (fun _ => RR) v .fail (fun _ _ => .fail) f (fun _ _ => .fail) (fun _ _ _ _ _ => .fail) (fun _ _ => .fail) (fun _ _ => .fail) .fail .fail .fail .fail .fail (fun _ => .fail) (fun _ _ => .fail) (fun _ => .fail) (fun _ => .fail) .fail (fun _ _ => .fail) (fun _ => .fail) (fun _ _ _ => .fail)
def asPtr (v : AV) (f : Nat → Nat → RR) : RR :=
  @AV.casesOn (fun _ => RR) v .fail (fun _ _ => .fail) (fun _ => .fail) f (fun _ _ _ _ _ => .fail) (fun _ _ => .fail) (fun _ _ => .fail) .fail .fail .fail .fail .fail (fun _ => .fail) (fun _ _ => .fail) (fun _ => .fail) (fun _ => .fail) .fail (fun _ _ => .fail) (fun _ => .fail) (fun _ _ _ => .fail)
def hiN : Nat → Nat
  | 0 => 128 | 1 => 32768 | 2 => 2147483648 | 3 => 9223372036854775808
  | 4 => 256 | 5 => 65536 | 6 => 4294967296 | _ => 18446744073709551616
def moN : Nat → Nat
  | 0 => 256 | 1 => 65536 | 2 => 4294967296 | 3 => 18446744073709551616
  | 4 => 256 | 5 => 65536 | 6 => 4294967296 | _ => 18446744073709551616
def biN : Nat → Nat
  | 0 => 8 | 1 => 16 | 2 => 32 | 3 => 64
  | 4 => 8 | 5 => 16 | 6 => 32 | _ => 64
def kindN : IntKind → Nat
  | .i8 => 0 | .i16 => 1 | .i32 => 2 | .i64 => 3 | .u8 => 4 | .u16 => 5 | .u32 => 6 | .u64 => 7
def byteAt (n x i : Nat) : Nat := (x >>> (8 * (n - 1 - i))) % 256
def cutB (n x l h : Nat) : Nat := (x >>> (8 * (n - h))) % (2 ^ (8 * (h - l)))
def catB (x m y : Nat) : Nat := (x <<< (8 * m)) + y
def layB (n x off m y : Nat) : Nat := catB (catB (cutB n x 0 off) m y) (n - off - m) (cutB n x (off + m) n)
def ltB (n x m y : Nat) : Bool :=
  br (Nat.blt (x <<< (8 * (Nat.max n m - n))) (y <<< (8 * (Nat.max n m - m)))) true
    (br (Nat.beq (x <<< (8 * (Nat.max n m - n))) (y <<< (8 * (Nat.max n m - m)))) (Nat.blt n m) false)
abbrev Sx := List AV → Env → AV
def nthDI : Nat → List AV → AV
  | _, [] => .undef
  | 0, v :: _ => v
  | n + 1, _ :: l => nthDI n l
def nthD (n : Nat) : List AV → AV :=
  @Nat.rec (fun _ => List AV → AV) (fun l => @List.casesOn AV (fun _ => AV) l .undef (fun v _ => v))
    (fun _ g l => @List.casesOn AV (fun _ => AV) l .undef (fun _ r => g r)) n
def orU (o : Option AV) : AV := @Option.casesOn AV (fun _ => AV) o .undef (fun v => v)
def sL (k : Nat) : Sx := fun ls _ => nthD k ls
def sT (k : Nat) : Sx := fun _ e => orU (e.get k)
def sC (v : AV) : Sx := fun _ _ => v
def evL (l : List Sx) (ls : List AV) (e : Env) : List AV :=
  match l with
  | [] => []
  | s :: l => s ls e :: evL l ls e
def evC (l : List Sx) (ls : List AV) (e : Env) : AV :=
  match l with
  | [] => .nl
  | s :: l => .cons (s ls e) (evC l ls e)
def cellsA : AV → AV
  | .agg l => l
  | v => .cons v .nl
def lenC : AV → Nat
  | .cons _ l => lenC l + 1
  | _ => 0
def listT : AV → Nat → T AV → T AV
  | .cons v l, i, t => listT l (i + 1) (t.put (some v) (i + 1))
  | _, _, t => t
def toL : AV → List AV
  | .cons v l => v :: toL l
  | _ => []
def ofL : List AV → AV
  | [] => .nl
  | v :: l => .cons v (ofL l)
def catC : AV → AV → AV
  | .cons v l, r => .cons v (catC l r)
  | _, r => r
def dropC : Nat → AV → AV
  | 0, l => l
  | n + 1, .cons _ l => dropC n l
  | _ + 1, _ => .nl
def takeC : Nat → AV → AV
  | 0, _ => .nl
  | n + 1, .cons a l => .cons a (takeC n l)
  | _ + 1, _ => .nl
def nthC : Nat → AV → Option AV
  | 0, .cons a _ => some a
  | n + 1, .cons _ l => nthC n l
  | _, _ => none
def overC (l : AV) (off : Nat) (vs : AV) : AV := catC (takeC off l) (catC vs (dropC (off + lenC vs) l))
def cellAt (t : T AV) (i : Nat) : AV := orU (t.get (i + 1))
def cellsFrom (t : T AV) : Nat → Nat → AV
  | _, 0 => .nl
  | i, n + 1 => .cons (cellAt t i) (cellsFrom t (i + 1) n)
def getO (h : H) (b : Nat) : Option AO := h.get (b + 1)
def setO (h : H) (b : Nat) (o : AO) : H := h.put (some o) (b + 1)
def killO (h : H) (b : Nat) : H := h.put none (b + 1)
def alloc (o : AO) (h : H) (n : Nat) (f : H → Nat → RR) : RR :=
  br (Nat.blt n 18446744073709551615) (br (fitO o) (frc (n + 1) fun m => f (setO h n o) m) .fail) .fail
inductive Seg where
  | bs (n x : Nat)
  | vs (n : Nat) (off : Nat) (t : T AV)
  deriving Inhabited
def fillT (t : T AV) : Nat → Nat → T AV → Nat → T AV
  | 0, _, _, _ => t
  | n + 1, i, s, j => fillT (t.put (some (cellAt s i)) (j + 1)) n (i + 1) s (j + 1)
def segO (size n off : Nat) : Option AO → Option Seg
  | some (.cells m _ t) => br (Nat.ble (off + n * size) m) (some (.vs (n * size) off t)) none
  | some (.bytes m x) => br (Nat.beq size 1) (br (Nat.ble (off + n) m) (some (.bs n (cutB m x off (off + n)))) none) none
  | _ => none
def segOf (h : H) (size n : Nat) : AV → Option Seg
  | .nils => br (Nat.beq n 0) (some (.vs 0 0 .nil)) none
  | .str m x => br (Nat.ble n m) (some (.bs n (cutB m x 0 n))) none
  | .sl b off _ _ _ => br (Nat.beq n 0) (some (.vs 0 0 .nil)) (segO size n off (getO h b))
  | _ => none
def laySeg (h : H) (b off : Nat) (s : Seg) : Option H :=
  match s with
  | .vs n i s => br (Nat.beq n 0) (some h) (br (Nat.ble KG b) (match getO h b with
    | some (.cells m es t) => br (Nat.ble (off + n) m) (some (setO h b (.cells m es (fillT t n i s off)))) none
    | _ => none) none)
  | .bs n y => br (Nat.beq n 0) (some h) (br (Nat.ble KG b) (match getO h b with
    | some (.bytes m x) => br (Nat.ble (off + n) m) (some (setO h b (.bytes m (layB m x off n y)))) none
    | _ => none) none)
def joinSeg (es : Nat) : Seg → Seg → Option AO
  | .bs n x, .bs m y => some (.bytes (n + m) (catB x m y))
  | .vs n _ _, .bs m y => br (Nat.beq n 0) (some (.bytes m y)) none
  | .bs n x, .vs m _ _ => br (Nat.beq m 0) (some (.bytes n x)) none
  | .vs n i t, .vs m j s => some (.cells (n + m) es (fillT (br (Nat.beq i 0) t (fillT .nil n i t 0)) m j s n))
def eqI (kd : Nat) : AV → AV → Option Bool
  | .int i a, .int j b => br (Nat.beq i kd) (br (Nat.beq j kd) (some (Nat.beq a b)) none) none
  | _, _ => none
def eqS : AV → AV → Option Bool
  | .str n x, .str m y => some (br (Nat.beq n m) (Nat.beq x y) false)
  | _, _ => none
def eqB : AV → AV → Option Bool
  | .bool a, .bool b => some (br a b (!b))
  | _, _ => none
def eqP : AV → AV → Option Bool
  | .nilp, .nilp => some true | .nilp, .ptr _ _ => some false | .ptr _ _, .nilp => some false
  | _, _ => none
def eqP2 : AV → AV → Option Bool
  | .nilp, .nilp => some true | .nilp, .ptr _ _ => some false | .ptr _ _, .nilp => some false
  | .ptr a x, .ptr b y => br (Nat.beq a b) (some (Nat.beq x y)) none
  | _, _ => none
def eqSl : AV → AV → Option Bool
  | .nils, .nils => some true | .nils, .sl _ _ _ _ _ => some false | .sl _ _ _ _ _, .nils => some false
  | _, _ => none
def eqM : AV → AV → Option Bool
  | .nilm, .nilm => some true | .nilm, .map _ => some false | .map _, .nilm => some false
  | _, _ => none
def eqF : AV → AV → Option Bool
  | .nilf, .nilf => some true | .nilf, .func _ _ => some false | .func _ _, .nilf => some false
  | _, _ => none
def eqIf : AV → AV → Option Bool
  | .nili, .iface _ _ => some false | .iface _ _, .nili => some false
  | .iface s _, .iface u _ => br (Nat.beq s u) none (some false)
  | _, _ => none
def eqTag (t : Nat) (x y : AV) : Option Bool := br (Nat.beq t 8) (eqS x y) (br (Nat.beq t 9) (eqB x y) (eqI t x y))
def eqC : List Nat → AV → AV → Option Bool
  | [], .nl, .nl => some true
  | t :: ts, .cons a l, .cons b m => match eqTag t a b with
    | some true => eqC ts l m
    | r => r
  | _, _, _ => none
def eqSt (ts : List Nat) : AV → AV → Option Bool
  | .agg l, .agg m => eqC ts l m
  | _, _ => none
def eqNil (x : AV) : Option Bool := match x with | .nili => some true | .iface _ _ => some false | _ => none
def eqKey : AV → AV → Option Bool
  | .int i a, .int j b => br (Nat.beq i j) (some (Nat.beq a b)) none
  | .str n x, .str m y => some (br (Nat.beq n m) (Nat.beq x y) false)
  | _, _ => none
def isKey (ks : Bool) : AV → Bool
  | .int _ _ => !ks
  | .str _ _ => ks
  | _ => false
def findK (k : AV) : List (AV × AV) → Option (Option AV)
  | [] => some none
  | (a, v) :: l => match eqKey k a with
    | some true => some (some v)
    | some false => findK k l
    | none => none
def setK (k v : AV) : List (AV × AV) → Option (List (AV × AV))
  | [] => some [(k, v)]
  | (a, w) :: l => match eqKey k a with
    | some true => some ((k, v) :: l)
    | some false => match setK k v l with | some r => some ((a, w) :: r) | none => none
    | none => none
def memN (n : Nat) : List Nat → Bool
  | [] => false
  | a :: l => br (Nat.beq n a) true (memN n l)
def assocN (n : Nat) : List (Nat × Nat) → Option Nat
  | [] => none
  | (a, b) :: l => br (Nat.beq n a) (some b) (assocN n l)
def repT (zero : AV) (size : Nat) : Nat → Nat → T AV → T AV
  | 0, _, t => t
  | n + 1, i, t => repT zero size n (i + size) (listT zero i t)
def zeroT (zero : AV) (size n : Nat) : T AV := repT zero size n 0 .nil
def buildL (ls : List AV) (e : Env) : List (Nat × Nat × Sx) → AV → Option AV
  | [], l => some l
  | (off, size, s) :: ps, l => br (Nat.beq (lenC (cellsA (s ls e))) size) (br (okCs (cellsA (s ls e))) (br (Nat.ble (off + size) (lenC l)) (buildL ls e ps (overC l off (cellsA (s ls e)))) none) none) none
def buildT (ls : List AV) (e : Env) (size a : Nat) : List (Nat × Sx) → T AV → Option (T AV)
  | [], t => some t
  | (i, s) :: ps, t => br (Nat.beq (lenC (cellsA (s ls e))) size) (br (okCs (cellsA (s ls e))) (br (Nat.blt i a) (buildT ls e size a ps (listT (cellsA (s ls e)) (i * size) t)) none) none) none
def buildB (ls : List AV) (e : Env) (n : Nat) : List (Nat × Sx) → Nat → Option Nat
  | [], x => some x
  | (i, s) :: ps, x => match s ls e with
    | .int 4 m => br (Nat.blt i n) (buildB ls e n ps (layB n x i 1 m)) none
    | _ => none
def rdO (i : Nat) (o : Option AO) (h : H) (n : Nat) (k : K) : RR :=
  match o with
  | some (.cells m _ t) => br (Nat.blt i m) (k (cellAt t i) h n) .fail
  | some (.bytes m x) => br (Nat.blt i m) (frc (byteAt m x i) fun c => k (.int 4 c) h n) .fail
  | some (.var _ m t) => br (Nat.blt i m) (k (cellAt t i) h n) .fail
  | _ => .fail
def rdNO (i m : Nat) (o : Option AO) (h : H) (n : Nat) (k : K) : RR :=
  match o with
  | some (.cells c _ t) => br (Nat.ble (i + m) c) (k (.agg (cellsFrom t i m)) h n) .fail
  | _ => .fail
def wrO' (b i : Nat) (vs : AV) (o : Option AO) (h : H) (n : Nat) (k : K) : RR :=
  match o with
  | some (.cells m es t) => br (Nat.ble (i + lenC vs) m) (k .undef (setO h b (.cells m es (listT vs i t))) n) .fail
  | some (.bytes m x) => (match vs with
    | .cons (.int 4 c) .nl => br (Nat.blt i m) (frc (layB m x i 1 c) fun y => k .undef (setO h b (.bytes m y)) n) .fail
    | _ => .fail)
  | some (.var ty m t) => br (Nat.ble (i + lenC vs) m) (k .undef (setO h b (.var ty m (listT vs i t))) n) .fail
  | _ => .fail
def wrO (b i : Nat) (vs : AV) (o : Option AO) (h : H) (n : Nat) (k : K) : RR := br (Nat.ble KG b) (wrO' b i vs o h n k) .fail
abbrev CallT := Nat → List AV → H → Nat → K → RR
abbrev Op' := CallT → List AV → Env → H → Nat → K → RR
def kO (v : Option AV) (h : H) (n : Nat) (k : K) : RR := match v with | some v => k v h n | none => .fail
def kB (v : Option Bool) (h : H) (n : Nat) (k : K) : RR := match v with | some v => k (.bool v) h n | none => .fail
def kN (v : Option Bool) (h : H) (n : Nat) (k : K) : RR := match v with | some v => k (.bool (!v)) h n | none => .fail
def kG (v : Option AV) (h : H) (n : Nat) (k : K) : RR := match v with | some v => k (.agg v) h n | none => .fail
def kH (v : AV) (h : Option H) (n : Nat) (k : K) : RR := match h with | some h => k v h n | none => .fail
def oMv (x : Sx) : Op' := fun _ l e h n k => k (x l e) h n
def oPick (c a b : Sx) : Op' := fun _ l e h n k => asBool (c l e) fun t => br t (k (a l e) h n) (k (b l e) h n)
def mkVar (bl : Bool) (t : Nat) (l : AV) : AO := br bl (.var t (lenC l) (listT l 0 .nil)) (.cells (lenC l) 0 (listT l 0 .nil))
def oNew (o : AO) : Op' := fun _ _ _ h n k => alloc o h n fun h' m => k (.ptr n 0) h' m
def oBox (x : Sx) : Op' := fun _ l e h n k => br (okCs (cellsA (x l e))) (alloc (.cells (lenC (cellsA (x l e))) 0 (listT (cellsA (x l e)) 0 .nil)) h n fun h' m => k (.ptr n 0) h' m) .fail
def oBuild (zero : AV) (ps : List (Nat × Nat × Sx)) : Op' := fun _ l e h n k => kG (buildL l e ps zero) h n k
def newSl (a c : Nat) (o : Option AO) (h : H) (n : Nat) (k : K) : RR :=
  match o with | some o => alloc o h n fun h' m => k (.sl n 0 a c true) h' m | none => .fail
def mapO {α : Type} (f : α → AO) : Option α → Option AO | some t => some (f t) | none => none
def oBuildSl (a size : Nat) (zero : AV) (ps : List (Nat × Sx)) : Op' := fun _ l e h n k =>
  newSl a a (mapO (.cells (a * size) size) (buildT l e size a ps (zeroT zero size a))) h n k
def oBuildBs (a : Nat) (ps : List (Nat × Sx)) : Op' := fun _ l e h n k => newSl a a (mapO (.bytes a) (buildB l e a ps 0)) h n k
def oLoad1 (a : Sx) : Op' := fun _ l e h n k => asPtr (a l e) fun b off => rdO off (getO h b) h n k
def oLoadN (m : Nat) (a : Sx) : Op' := fun _ l e h n k => asPtr (a l e) fun b off => rdNO off m (getO h b) h n k
def oStore (m : Nat) (a x : Sx) : Op' := fun _ l e h n k => asPtr (a l e) fun b off =>
  br (Nat.beq (lenC (cellsA (x l e))) m) (br (okCs (cellsA (x l e))) (wrO b off (cellsA (x l e)) (getO h b) h n k) .fail) .fail
def nilckA (x : AV) (h : H) (n : Nat) (k : K) : RR := match x with
  | .ptr b off => k (.ptr b off) h n
  | .iface t v => k (.iface t v) h n
  | .func f c => k (.func f c) h n
  | _ => .fail
def oNilck (x : Sx) : Op' := fun _ l e h n k => nilckA (x l e) h n k
def int2 (kd : Nat) (x y : AV) (f : Nat → Nat → RR) : RR :=
  asInt x fun i a => asInt y fun j b => br (Nat.beq i kd) (br (Nat.beq j kd) (f a b) .fail) .fail
def oAdd (kd mo : Nat) (x y : Sx) : Op' := fun _ l e h n k => int2 kd (x l e) (y l e) fun a b => frc ((a + b) % mo) fun c => k (.int kd c) h n
def oSub (kd mo : Nat) (x y : Sx) : Op' := fun _ l e h n k => int2 kd (x l e) (y l e) fun a b => frc ((a + (mo - b)) % mo) fun c => k (.int kd c) h n
def oMul (kd mo : Nat) (x y : Sx) : Op' := fun _ l e h n k => int2 kd (x l e) (y l e) fun a b => frc ((a * b) % mo) fun c => k (.int kd c) h n
def oQuo (kd hi : Nat) (x y : Sx) : Op' := fun _ l e h n k => int2 kd (x l e) (y l e) fun a b =>
  br (Nat.blt a hi) (br (Nat.blt b hi) (br (Nat.beq b 0) .fail (frc (a / b) fun c => k (.int kd c) h n)) .fail) .fail
def oRem (kd hi : Nat) (x y : Sx) : Op' := fun _ l e h n k => int2 kd (x l e) (y l e) fun a b =>
  br (Nat.blt a hi) (br (Nat.blt b hi) (br (Nat.beq b 0) .fail (frc (a % b) fun c => k (.int kd c) h n)) .fail) .fail
def andU (kd i m a : Nat) (y : AV) (h : H) (n : Nat) (k : K) : RR := asInt y fun j b => br (Nat.beq i kd) (br (Nat.beq j kd) (br (Nat.beq (Nat.land m b) b) (frc (Nat.land a b) fun c => k (.int kd c) h n) .fail) .fail) .fail
def andA (kd : Nat) (x y : AV) (h : H) (n : Nat) (k : K) : RR := match x with
  | .ukn i m a => andU kd i m a y h n k
  | x => int2 kd x y fun a b => frc (Nat.land a b) fun c => k (.int kd c) h n
def oAnd (kd : Nat) (x y : Sx) : Op' := fun _ l e h n k => andA kd (x l e) (y l e) h n k
def oOr (kd : Nat) (x y : Sx) : Op' := fun _ l e h n k => int2 kd (x l e) (y l e) fun a b => frc (Nat.lor a b) fun c => k (.int kd c) h n
def oXor (kd : Nat) (x y : Sx) : Op' := fun _ l e h n k => int2 kd (x l e) (y l e) fun a b => frc (Nat.xor a b) fun c => k (.int kd c) h n
def oClr (kd mo : Nat) (x y : Sx) : Op' := fun _ l e h n k => int2 kd (x l e) (y l e) fun a b => frc (Nat.land a (mo - 1 - b)) fun c => k (.int kd c) h n
def oShl (kd bi mo : Nat) (x y : Sx) : Op' := fun _ l e h n k => asInt (x l e) fun i a => asInt (y l e) fun j b =>
  br (Nat.beq i kd) (br (Nat.blt b (hiN j)) (frc ((a * 2 ^ Nat.min b bi) % mo) fun c => k (.int kd c) h n) .fail) .fail
def shrU (kd i m a : Nat) (y : AV) (h : H) (n : Nat) (k : K) : RR := asInt y fun j b => br (Nat.beq i kd) (br (Nat.beq kd 3) (br (Nat.blt b 64) (br (Nat.blt b (hiN j)) (br (Nat.blt m 18446744073709551616) (frc (m / 2 ^ b) fun m => frc (a / 2 ^ b) fun a => k (.ukn kd m a) h n) .fail) .fail) .fail) .fail) .fail
def shrA (kd bi hi : Nat) (x y : AV) (h : H) (n : Nat) (k : K) : RR := match x with
  | .ukn i m a => shrU kd i m a y h n k
  | x => asInt x fun i a => asInt y fun j b =>
  br (Nat.beq i kd) (br (Nat.blt b (hiN j)) (br (Nat.blt a hi) (frc (a / 2 ^ Nat.min b bi) fun c => k (.int kd c) h n) .fail) .fail) .fail
def oShr (kd bi hi : Nat) (x y : Sx) : Op' := fun _ l e h n k => shrA kd bi hi (x l e) (y l e) h n k
def oLt (kd up mo : Nat) (x y : Sx) : Op' := fun _ l e h n k => int2 kd (x l e) (y l e) fun a b => k (.bool (Nat.blt ((a + up) % mo) ((b + up) % mo))) h n
def oLe (kd up mo : Nat) (x y : Sx) : Op' := fun _ l e h n k => int2 kd (x l e) (y l e) fun a b => k (.bool (Nat.ble ((a + up) % mo) ((b + up) % mo))) h n
def str2 (x y : AV) (f : Nat → Nat → Nat → Nat → RR) : RR := match x, y with
  | .str n x, .str m y => f n x m y
  | _, _ => .fail
def oCat (x y : Sx) : Op' := fun _ l e h n k => str2 (x l e) (y l e) fun a s c t =>
  br (Nat.blt (a + c) 140737488355328) (frc (catB s c t) fun z => k (.str (a + c) z) h n) .fail
def oLtS (x y : Sx) : Op' := fun _ l e h n k => str2 (x l e) (y l e) fun a s c t => k (.bool (ltB a s c t)) h n
def oLeS (x y : Sx) : Op' := fun _ l e h n k => str2 (x l e) (y l e) fun a s c t => k (.bool (!ltB c t a s)) h n
def oEq (f : AV → AV → Option Bool) (x y : Sx) : Op' := fun _ l e h n k => kB (f (x l e) (y l e)) h n k
def oNe (f : AV → AV → Option Bool) (x y : Sx) : Op' := fun _ l e h n k => kN (f (x l e) (y l e)) h n k
def oEqN (x : Sx) : Op' := fun _ l e h n k => kB (eqNil (x l e)) h n k
def oNeN (x : Sx) : Op' := fun _ l e h n k => kN (eqNil (x l e)) h n k
def oNot (x : Sx) : Op' := fun _ l e h n k => asBool (x l e) fun b => k (.bool (!b)) h n
def oNeg (kd mo : Nat) (x : Sx) : Op' := fun _ l e h n k => asInt (x l e) fun i a => br (Nat.beq i kd) (frc ((mo - a) % mo) fun c => k (.int kd c) h n) .fail
def oToInt (kd mo : Nat) (x : Sx) : Op' := fun _ l e h n k => asInt (x l e) fun i a =>
  br (Nat.blt a (hiN i)) (frc (a % mo) fun c => k (.int kd c) h n) (frc ((a + (18446744073709551616 - moN i)) % mo) fun c => k (.int kd c) h n)
def strToBsA (x : AV) (h : H) (n : Nat) (k : K) : RR := match x with | .str m y => alloc (.bytes m y) h n fun h' n' => k (.sl n 0 m m false) h' n' | _ => .fail
def oStrToBs (x : Sx) : Op' := fun _ l e h n k => strToBsA (x l e) h n k
def strSeg (s : Option Seg) (h : H) (n : Nat) (k : K) : RR := match s with
  | some (.bs m y) => frc y fun y => k (.str m y) h n
  | some (.vs m _ _) => br (Nat.beq m 0) (k (.str 0 0) h n) .fail
  | none => .fail
def bsToStrA (x : AV) (h : H) (n : Nat) (k : K) : RR := match x with
  | .nils => k (.str 0 0) h n
  | .sl b off len cap ex => strSeg (segOf h 1 len (.sl b off len cap ex)) h n k
  | _ => .fail
def oBsToStr (x : Sx) : Op' := fun _ l e h n k => bsToStrA (x l e) h n k
def markO (x : AV) (b : Nat) (o : Option AO) (h : H) (n : Nat) (k : K) : RR := match o with
  | some (.bytes _ _) => br (Nat.ble KG b) (k x h n) .fail
  | _ => .fail
def markA (x : AV) (h : H) (n : Nat) (k : K) : RR := match x with
  | .sl b off len cap ex => markO (.sl b off len cap ex) b (getO h b) h n k
  | _ => .fail
def oMark (x : Sx) : Op' := fun _ l e h n k => markA (x l e) h n k
def oMkIf (t : Nat) (x : Sx) : Op' := fun _ l e h n k => k (.iface t (x l e)) h n
def oMkFn (f : Nat) (caps : List Sx) : Op' := fun _ l e h n k => k (.func f (evC caps l e)) h n
def oMkMap : Op' := fun _ _ _ h n k => alloc (.map []) h n fun h' m => k (.map n) h' m
def mkSlA (bytes : Nat) (o : Nat → AO) (x y : AV) (h : H) (n : Nat) (k : K) : RR :=
  int2 3 x y fun l c => br (Nat.ble l c) (br (Nat.blt c 9223372036854775808) (br (Nat.ble (c * bytes) 140737488355328) (newSl l c (some (o c)) h n k) .fail) .fail) .fail
def oMkSl (size bytes : Nat) (zero : AV) (x c : Sx) : Op' := fun _ l e h n k => mkSlA bytes (fun c => .cells (c * size) size (zeroT zero size c)) (x l e) (c l e) h n k
def oMkBs (x c : Sx) : Op' := fun _ l e h n k => mkSlA 1 (fun c => .bytes c 0) (x l e) (c l e) h n k
def bndA (v : AV) : Option Nat := match v with | .int kd u => br (Nat.blt u (hiN kd)) (some u) none | _ => none
def bnd (s : Option Sx) (d : Nat) (ls : List AV) (e : Env) : Option Nat := match s with | none => some d | some s => bndA (s ls e)
def cutS (m y : Nat) (lo hi : Option Nat) (h : H) (n : Nat) (k : K) : RR := match lo, hi with
  | some l, some r => br (Nat.ble l r) (br (Nat.ble r m) (frc (cutB m y l r) fun z => k (.str (r - l) z) h n) .fail) .fail
  | _, _ => .fail
def oSliceS (x : Sx) (lo hi : Option Sx) : Op' := fun _ l e h n k => match x l e with
  | .str m y => cutS m y (bnd lo 0 l e) (bnd hi m l e) h n k
  | _ => .fail
def growO (size : Nat) : Option AO → Bool
  | some (.cells _ es _) => br (Nat.beq es size) (Nat.blt 0 size) false
  | some (.bytes _ _) => Nat.beq size 1
  | some (.rowb _ _ _ _) => Nat.beq size 1
  | _ => false
def cutSl (size b off cap : Nat) (ex : Bool) (lo hi mx : Option Nat) (h : H) (n : Nat) (k : K) : RR := match lo, hi, mx with
  | some l, some r, some m => br (Nat.ble l r) (br (Nat.ble r m) (br (Nat.ble m cap)
      (k (.sl b (br ex (br (Nat.beq m l) off (off + l * size)) (off + l * size)) (r - l) (m - l) ex) h n) .fail) .fail) .fail
  | _, _, _ => .fail
def cutNil (lo hi : Option Nat) (h : H) (n : Nat) (k : K) : RR := match lo, hi with
  | some l, some r => br (Nat.beq l 0) (br (Nat.beq r 0) (k .nils h n) .fail) .fail
  | _, _ => .fail
def oSlice (size : Nat) (x : Sx) (lo hi mx : Option Sx) : Op' := fun _ l e h n k => match x l e with
  | .nils => (match mx with | none => cutNil (bnd lo 0 l e) (bnd hi 0 l e) h n k | some m => (match bndA (m l e) with | some 0 => cutNil (bnd lo 0 l e) (bnd hi 0 l e) h n k | _ => .fail))
  | .sl b off len cap ex => br (br ex true (growO size (getO h b))) (cutSl size b off cap (br mx.isSome (br ex true (Nat.blt 0 cap)) ex) (bnd lo 0 l e) (bnd hi len l e) (bnd mx cap l e) h n k) .fail
  | _ => .fail
def oSliceA (m size : Nat) (x : Sx) (lo hi mx : Option Sx) : Op' := fun _ l e h n k => asPtr (x l e) fun b off =>
  cutSl size b off m true (bnd lo 0 l e) (bnd hi m l e) (bnd mx m l e) h n k
def oFaddr (off : Nat) (x : Sx) : Op' := fun _ l e h n k => asPtr (x l e) fun b o => frc (o + off) fun o => k (.ptr b o) h n
def partA (off : Nat) (size : Option Nat) (x : AV) (h : H) (n : Nat) (k : K) : RR := match x with
  | .agg l => (match size with
    | some m => k (.agg (takeC m (dropC off l))) h n
    | none => kO (nthC off l) h n k)
  | _ => .fail
def oPart (off : Nat) (size : Option Nat) (x : Sx) : Op' := fun _ l e h n k => partA off size (x l e) h n k
def idx (v : AV) (m : Nat) (f : Nat → RR) : RR := asInt v fun kd u => br (Nat.blt u (hiN kd)) (br (Nat.blt u m) (f u) .fail) .fail
def oIaddrA (m size : Nat) (x i : Sx) : Op' := fun _ l e h n k => asPtr (x l e) fun b off => idx (i l e) m fun i => frc (off + i * size) fun o => k (.ptr b o) h n
def asSl (v : AV) (f : Nat → Nat → Nat → RR) : RR := match v with | .sl b off len _ _ => f b off len | _ => .fail
def oIaddr (size : Nat) (x i : Sx) : Op' := fun _ l e h n k => asSl (x l e) fun b off len => idx (i l e) len fun i => frc (off + i * size) fun o => k (.ptr b o) h n
def idxAA (size : Nat) (agg : Bool) (i : Nat) (x : AV) (h : H) (n : Nat) (k : K) : RR := match x with
  | .agg l => br agg (k (.agg (takeC size (dropC (i * size) l))) h n) (kO (nthC (i * size) l) h n k)
  | _ => .fail
def oIdxA (m size : Nat) (agg : Bool) (x i : Sx) : Op' := fun _ l e h n k => idx (i l e) m fun i => idxAA size agg i (x l e) h n k
def idxSA (x i : AV) (h : H) (n : Nat) (k : K) : RR := match x with
  | .str m y => idx i m fun i => frc (byteAt m y i) fun c => k (.int 4 c) h n
  | _ => .fail
def oIdxS (x i : Sx) : Op' := fun _ l e h n k => idxSA (x l e) (i l e) h n k
def findO (k : AV) : Option AO → Option (Option AV) | some (.map l) => findK k l | _ => none
def findA (h : H) (m k : AV) : Option (Option AV) := match m with
  | .nilm => some none
  | .map b => findO k (getO h b)
  | _ => none
def lookR (zero : AV) (ok : Bool) (r : Option (Option AV)) (h : H) (n : Nat) (k : K) : RR := match r with
  | none => .fail
  | some none => k (br ok (.tup (.cons zero (.cons (.bool false) .nl))) zero) h n
  | some (some v) => k (br ok (.tup (.cons v (.cons (.bool true) .nl))) v) h n
def oLookup (ks : Bool) (zero : AV) (ok : Bool) (m x : Sx) : Op' := fun _ l e h n k => br (isKey ks (x l e)) (lookR zero ok (findA h (m l e) (x l e)) h n k) .fail
def putMap (h : H) (b : Nat) (l : Option (List (AV × AV))) (n : Nat) (k : K) : RR := match l with | some l => k .undef (setO h b (.map l)) n | none => .fail
def mapSetO (b : Nat) (x v : AV) (o : Option AO) (h : H) (n : Nat) (k : K) : RR := match o with
  | some (.map l) => br (Nat.ble KG b) (putMap h b (setK x v l) n k) .fail
  | _ => .fail
def mapSetA (m x v : AV) (h : H) (n : Nat) (k : K) : RR := match m with
  | .map b => mapSetO b x v (getO h b) h n k
  | _ => .fail
def oMapSet (ks : Bool) (m x v : Sx) : Op' := fun _ l e h n k => br (isKey ks (x l e)) (mapSetA (m l e) (x l e) (v l e) h n k) .fail
def extA (x : AV) (i : Nat) (h : H) (n : Nat) (k : K) : RR := match x with | .tup l => kO (nthC i l) h n k | _ => .fail
def oExt (x : Sx) (i : Nat) : Op' := fun _ l e h n k => extA (x l e) i h n k
def two (a : AV) (b : Bool) : AV := .tup (.cons a (.cons (.bool b) .nl))
def asrtTA (t : Nat) (zero : AV) (x : AV) (h : H) (n : Nat) (k : K) : RR := match x with
  | .iface u v => br (Nat.beq u t) (k (two v true) h n) (k (two zero false) h n)
  | .nili => k (two zero false) h n
  | _ => .fail
def oAsrtT (t : Nat) (zero : AV) (x : Sx) : Op' := fun _ l e h n k => asrtTA t zero (x l e) h n k
def asrtIA (m : Nat) (ts : List Nat) (x : AV) (h : H) (n : Nat) (k : K) : RR := match x with
  | .iface u v => br (Nat.blt u m) (br (memN u ts) (k (two (.iface u v) true) h n) (k (two .nili false) h n)) .fail
  | .nili => k (two .nili false) h n
  | _ => .fail
def oAsrtI (m : Nat) (ts : List Nat) (x : Sx) : Op' := fun _ l e h n k => asrtIA m ts (x l e) h n k
def oCall (f : Nat) (args : List Sx) : Op' := fun call l e h n k => call f (evL args l e) h n k
def callVA (call : CallT) (f : AV) (args : List AV) (h : H) (n : Nat) (k : K) : RR := match f with | .func f caps => call f (args ++ toL caps) h n k | _ => .fail
def oCallV (f : Sx) (args : List Sx) : Op' := fun call l e h n k => callVA call (f l e) (evL args l e) h n k
def callO (call : CallT) (f : Option Nat) (args : List AV) (h : H) (n : Nat) (k : K) : RR := match f with | some f => call f args h n k | none => .fail
def callP (call : CallT) (f : Nat) (v : AV) (args : List AV) (h : H) (n : Nat) (k : K) : RR := match v with | .agg (.cons a .nl) => call f (a :: args) h n k | _ => .fail
def invO (call : CallT) (ms : List (Nat × Nat)) (t : Nat) (v : AV) (args : List AV) (h : H) (n : Nat) (k : K) (p : Option Nat) : RR := match p with
  | some f => callP call f v args h n k
  | none => callO call (assocN t ms) (v :: args) h n k
def invokeA (call : CallT) (ps ms : List (Nat × Nat)) (x : AV) (args : List AV) (h : H) (n : Nat) (k : K) : RR := match x with
  | .iface t v => invO call ms t v args h n k (assocN t ps)
  | _ => .fail
def oInvoke (ps ms : List (Nat × Nat)) (x : Sx) (args : List Sx) : Op' := fun call l e h n k => invokeA call ps ms (x l e) (evL args l e) h n k
def lenL {α : Type} : List α → Nat
  | [] => 0
  | _ :: l => lenL l + 1
def small (m : Nat) (r : RR) : RR := br (Nat.blt m 9223372036854775808) r .fail
def lenO (o : Option AO) (h : H) (n : Nat) (k : K) : RR := match o with | some (.map l) => small (lenL l) (frc (lenL l) fun m => k (.int 3 m) h n) | _ => .fail
def lenSA (x : AV) (h : H) (n : Nat) (k : K) : RR := match x with
  | .str m _ => small m (frc m fun m => k (.int 3 m) h n)
  | _ => .fail
def lenSlA (x : AV) (h : H) (n : Nat) (k : K) : RR := match x with
  | .nils => k (.int 3 0) h n
  | .sl _ _ m _ _ => small m (frc m fun m => k (.int 3 m) h n)
  | _ => .fail
def lenMA (x : AV) (h : H) (n : Nat) (k : K) : RR := match x with
  | .nilm => k (.int 3 0) h n
  | .map b => lenO (getO h b) h n k
  | _ => .fail
def oLenS (x : Sx) : Op' := fun _ l e h n k => lenSA (x l e) h n k
def oLenSl (x : Sx) : Op' := fun _ l e h n k => lenSlA (x l e) h n k
def oLenM (x : Sx) : Op' := fun _ l e h n k => lenMA (x l e) h n k
def oLenC (m : Nat) : Op' := fun _ _ _ h n k => small m (k (.int 3 m) h n)
def capA (x : AV) (h : H) (n : Nat) (k : K) : RR := match x with
  | .nils => k (.int 3 0) h n
  | .sl _ _ _ m ex => br ex (small m (k (.int 3 m) h n)) .fail
  | _ => .fail
def oCap (x : Sx) : Op' := fun _ l e h n k => capA (x l e) h n k
def oMin (kd up mo : Nat) (x y : Sx) : Op' := fun _ l e h n k => int2 kd (x l e) (y l e) fun a b => k (.int kd (br (Nat.blt ((b + up) % mo) ((a + up) % mo)) b a)) h n
def oMax (kd up mo : Nat) (x y : Sx) : Op' := fun _ l e h n k => int2 kd (x l e) (y l e) fun a b => k (.int kd (br (Nat.blt ((a + up) % mo) ((b + up) % mo)) b a)) h n
def clearO (b : Nat) (o : Option AO) (h : H) (n : Nat) (k : K) : RR := match o with | some (.map _) => br (Nat.ble KG b) (k .undef (setO h b (.map [])) n) .fail | _ => .fail
def clearA (m : AV) (h : H) (n : Nat) (k : K) : RR := match m with
  | .nilm => k .undef h n
  | .map b => clearO b (getO h b) h n k
  | _ => .fail
def oClear (m : Sx) : Op' := fun _ l e h n k => clearA (m l e) h n k
def freshSl (a : Nat) (o : Option AO) (h : H) (n : Nat) (k : K) : RR := match o with
  | some o => alloc o h n fun h' m => k (.sl n 0 a a false) h' m
  | none => .fail
def joinO (es : Nat) (a : Option Seg) (s : Seg) : Option AO := match a with | some a => joinSeg es a s | none => none
def appendA (size by_ : Nat) (x : AV) (a : Nat) (s : Seg) (h : H) (n : Nat) (k : K) : RR :=
  match x with
  | .nils => br (Nat.beq a 0) (k .nils h n) (br (Nat.blt a 140737488355328) (br (Nat.ble (a * by_) 140737488355328) (freshSl a (joinSeg size (.vs 0 0 .nil) s) h n k) .fail) .fail)
  | .sl b off len cap ex => br (Nat.blt (len + a) 140737488355328) (br (Nat.ble ((len + a) * by_) 140737488355328)
    (br (Nat.ble (len + a) cap) (kH (.sl b off (len + a) cap ex) (laySeg h b (off + len * size) s) n k)
      (br (br ex true (br (Nat.ble KG b) (growO size (getO h b)) false)) (freshSl (len + a) (joinO size (segOf h size len (.sl b off len cap ex)) s) (br ex h (killO h b)) n k) .fail)) .fail) .fail
  | _ => .fail
def appendS (size by_ : Nat) (x : AV) (a : Nat) (s : Option Seg) (h : H) (n : Nat) (k : K) : RR := match s with | some s => appendA size by_ x a s h n k | none => .fail
def appendXA (size by_ : Nat) (x y : AV) (h : H) (n : Nat) (k : K) : RR := match y with
  | .nils => appendA size by_ x 0 (.vs 0 0 .nil) h n k
  | .str m z => br (Nat.beq size 1) (appendA size by_ x m (.bs m z) h n k) .fail
  | .sl b off len cap ex => appendS size by_ x len (segOf h size len (.sl b off len cap ex)) h n k
  | _ => .fail
def oAppend (size by_ : Nat) (x y : Sx) : Op' := fun _ l e h n k => appendXA size by_ (x l e) (y l e) h n k
def oAppendZ (size by_ : Nat) (u8 : Bool) (zero : AV) (x y : Sx) : Op' := fun _ l e h n k => asInt (y l e) fun kd a =>
  br (Nat.blt a 16777216) (br (Nat.blt a (hiN kd)) (appendA size by_ (x l e) a (br u8 (.bs a 0) (.vs (a * size) 0 (zeroT zero size a))) h n k) .fail) .fail
def freshB (ty a x : Nat) (h : H) (n : Nat) (k : K) : RR := alloc (.rowb ty a a x) h n fun h' m => k (.sl n 0 a a false) h' m
def appBO (ty b off len cap a z : Nat) (o : Option AO) (h : H) (n : Nat) (k : K) : RR := match o with
  | some (.rowb ty' m q y) => br (Nat.beq ty' ty) (br (Nat.ble KG b) (br (Nat.blt 0 (len + a)) (br (Nat.blt (len + a) 140737488355328) (br (Nat.ble (off + len) q)
      (br (Nat.ble (len + a) cap)
        (br (Nat.ble (off + len + a) m) (br (Nat.ble (off + len + a) 140737488355328) (frc (catB (cutB q y 0 (off + len)) a z) fun y' => k (.sl b off (len + a) cap false) (setO h b (.rowb ty m (off + len + a) y')) n) .fail) .fail)
        (freshB ty (len + a) (catB (cutB q y off (off + len)) a z) (killO h b) n k)) .fail) .fail) .fail) .fail) .fail
  | _ => .fail
def appBA (ty : Nat) (x : AV) (a z : Nat) (h : H) (n : Nat) (k : K) : RR := match x with
  | .nils => br (Nat.beq a 0) (k .nils h n) (br (Nat.blt a 140737488355328) (freshB ty a z h n k) .fail)
  | .sl b off len cap ex => br ex .fail (appBO ty b off len cap a z (getO h b) h n k)
  | _ => .fail
def appBY (ty : Nat) (x y : AV) (h : H) (n : Nat) (k : K) : RR := match y with | .str a z => appBA ty x a z h n k | _ => .fail
def oAppB (ty : Nat) (x y : Sx) : Op' := fun _ l e h n k => appBY ty (x l e) (y l e) h n k
def usdA (x : AV) (h : H) (n : Nat) (k : K) : RR := match x with
  | .nils => k .nilp h n
  | .sl b off _ cap _ => br (Nat.blt 0 cap) (k (.ptr b off) h n) .fail
  | _ => .fail
def oUsd (x : Sx) : Op' := fun _ l e h n k => usdA (x l e) h n k
def ustO (ty b off m : Nat) (o : Option AO) (h : H) (n : Nat) (k : K) : RR := match o with
  | some (.rowb ty' _ q y) => br (Nat.beq ty' ty) (br (Nat.ble KG b) (br (Nat.blt 0 m) (br (Nat.blt m 9223372036854775808) (br (Nat.ble (off + m) q) (frc (cutB q y off (off + m)) fun z => k (.str m z) (killO h b) n) .fail) .fail) .fail) .fail) .fail
  | _ => .fail
def ustA (ty : Nat) (x y : AV) (h : H) (n : Nat) (k : K) : RR := asInt y fun kd m => br (Nat.beq kd 3) (match x with
  | .nilp => br (Nat.beq m 0) (k (.str 0 0) h n) .fail
  | .ptr b off => ustO ty b off m (getO h b) h n k
  | _ => .fail) .fail
def oUst (ty : Nat) (x y : Sx) : Op' := fun _ l e h n k => ustA ty (x l e) (y l e) h n k
def p2uO (x : AV) (off : Nat) (o : Option AO) (h : H) (n : Nat) (k : K) : RR := match o with
  | some (.var _ m _) => br (Nat.blt off m) (k x h n) .fail
  | _ => .fail
def p2uA (x : AV) (h : H) (n : Nat) (k : K) : RR := match x with
  | .nilp => k .nilp h n
  | .ptr b off => p2uO (.ptr b off) off (getO h b) h n k
  | _ => .fail
def oP2U (x : Sx) : Op' := fun _ l e h n k => p2uA (x l e) h n k
def u2pO (u sz : Nat) (x : AV) (o : Option AO) (h : H) (n : Nat) (k : K) : RR := match o with
  | some (.var ty m _) => br (Nat.beq ty u) (br (Nat.beq m sz) (k x h n) .fail) .fail
  | _ => .fail
def u2pA (u sz : Nat) (x : AV) (h : H) (n : Nat) (k : K) : RR := match x with
  | .nilp => k .nilp h n
  | .ptr b off => br (Nat.beq off 0) (u2pO u sz (.ptr b 0) (getO h b) h n k) .fail
  | _ => .fail
def oU2P (u sz : Nat) (x : Sx) : Op' := fun _ l e h n k => u2pA u sz (x l e) h n k
def lenOfA (x : AV) : Option Nat := match x with | .nils => some 0 | .sl _ _ l _ _ => some l | .str l _ => some l | _ => none
def copyTo (x : AV) (m : Nat) (s : Option Seg) (h : H) (n : Nat) (k : K) : RR := match s with
  | some s => (match x with
    | .sl b off _ _ _ => kH (.int 3 m) (laySeg h b off s) n k
    | .nils => k (.int 3 0) h n
    | _ => .fail)
  | none => .fail
def copyA (size : Nat) (x y : AV) (h : H) (n : Nat) (k : K) : RR := match lenOfA x, lenOfA y with
  | some a, some c => small (Nat.min c a) (copyTo x (Nat.min c a) (segOf h size (Nat.min c a) y) h n k)
  | _, _ => .fail
def oCopy (size : Nat) (x y : Sx) : Op' := fun _ l e h n k => copyA size (x l e) (y l e) h n k
def strA (x : AV) (h : H) (n : Nat) (k : K) : RR := match x with | .str m y => k (.str m y) h n | _ => .fail
def oStr (x : Sx) : Op' := fun _ l e h n k => strA (x l e) h n k
def oBad : Op' := fun _ _ _ _ _ _ => .fail
structure LOper where
  dst : Nat
  guard : Option (Nat × Bool)
  op : Op'
def putE (e : Env) (d : Nat) (v : AV) : Env := br (Nat.beq d 0) e (e.put (some v) d)
def wantedB (b : Bool) (v : AV) : Bool := match v with | .bool c => br b c (!c) | _ => false
def wantedA (ls : List AV) (g : Option (Nat × Bool)) : Bool :=
  @Option.casesOn (Nat × Bool) (fun _ => Bool) g true (fun p => wantedB p.2 (nthD p.1 ls))
def runOpsI (call : CallT) : List LOper → List AV → Env → H → Nat → RR
  | [], _, e, h, n => .nrm e h n
  | o :: l, ls, e, h, n =>
    br (wantedA ls o.guard) (o.op call ls e h n fun v h n => runOpsI call l (v :: ls) (putE e o.dst v) h n)
      (runOpsI call l (.undef :: ls) (putE e o.dst .undef) h n)
def stepOp (call : CallT) (o : LOper) (go : List AV → Env → H → Nat → RR) (ls : List AV) (e : Env) (h : H) (n : Nat) : RR :=
  br (wantedA ls o.guard) (o.op call ls e h n fun v h n => go (v :: ls) (putE e o.dst v) h n) (go (.undef :: ls) (putE e o.dst .undef) h n)
def runOps (call : CallT) (l : List LOper) : List AV → Env → H → Nat → RR :=
  @List.rec LOper (fun _ => List AV → Env → H → Nat → RR) (fun _ e h n => .nrm e h n)
    (fun o _ go ls e h n => stepOp call o go ls e h n) l
inductive GR where
  | fail
  | nrm (e : Env) (h : H) (n p : Nat)
  | ext (id : Nat) (e : Env) (h : H) (n p : Nat)
  | ret (e : Env) (h : H) (n p : Nat)
  deriving Inhabited
abbrev YT := List AV → H → Nat → RR
abbrev XG := CallT → YT → Nat → Env → H → Nat → Nat → GR
structure LG where
  ok : Bool
  body : XG
abbrev IterT := Nat → Option LG
structure Lv where
  call : CallT
  iter : IterT
abbrev X := Lv → Env → H → Nat → RR
def thenX (k : Env → H → Nat → RR) (r : RR) : RR :=
  @RR.casesOn (fun _ => RR) r .fail k (fun id e h n => .ext id e h n) (fun e h n => .ret e h n) (fun _ _ _ => .fail)
def outX (id : Nat) (r : RR) : RR :=
  @RR.casesOn (fun _ => RR) r .fail (fun e h n => .nrm e h n) (fun j e h n => br (Nat.beq j id) (.nrm e h n) (.ext j e h n)) (fun e h n => .ret e h n) (fun _ _ _ => .fail)
def nrmX (k : Env → H → Nat → RR) (r : RR) : RR :=
  @RR.casesOn (fun _ => RR) r .fail k (fun _ _ _ _ => .fail) (fun _ _ _ => .fail) (fun _ _ _ => .fail)
def argsE : List AV → Nat → Env → Env
  | [], _, e => e
  | v :: l, k, e => argsE l (k + 1) (e.put (some v) k)
def backX (e0 : Env) (r : RR) : RR :=
  @RR.casesOn (fun _ => RR) r .fail (fun _ h n => .nrm e0 h n) (fun id _ h n => .ext id e0 h n) (fun _ h n => .ret e0 h n) (fun _ _ _ => .fail)
def jumpG (e0 : Env) (h : H) (n p : Nat) : RR := br (Nat.beq p 0) (.nrm e0 h n) (br (Nat.beq p 1) (.ret e0 h n) (frc (p - 2) fun id => .ext id e0 h n))
def loopNI (b : Env → H → Nat → RR) : Nat → Env → H → Nat → RR
  | 0, _, _, _ => .fail
  | k + 1, e, h, n => thenX (loopNI b k) (b e h n)
def loopN (b : Env → H → Nat → RR) (f : Nat) : Env → H → Nat → RR :=
  @Nat.rec (fun _ => Env → H → Nat → RR) (fun _ _ _ => .fail) (fun _ go e h n => thenX go (b e h n)) f
def xSkip : X := fun _ e h n => .nrm e h n
def xOps (l : List LOper) : X := fun L e h n => runOps L.call l [] e h n
def xSeq (a b : X) : X := fun L e h n => thenX (fun e h n => b L e h n) (a L e h n)
def xCond (c : Sx) (a b : X) : X := fun L e h n => asBool (c [] e) fun t => br t (a L e h n) (b L e h n)
def xBlock (id : Nat) (b : X) : X := fun L e h n => outX id (b L e h n)
def xLoop (b : X) : X := fun L e h n => loopN (b L) 1000000 e h n
def endG (e0 : Env) (r : GR) : RR :=
  @GR.casesOn (fun _ => RR) r .fail (fun _ h n p => jumpG e0 h n p) (fun _ _ _ _ _ => .fail) (fun _ h n p => jumpG e0 h n p)
def iterX (call : CallT) (Y : YT) (caps : AV) (e0 : Env) (h : H) (n : Nat) (g : Option LG) : RR := match g with
  | some lg => br lg.ok (br (Nat.ble (lenL (toL caps)) 100000) (br (Nat.blt n 18446744073709551615) (frc (n + 1) fun m => endG e0 (lg.body call Y n (argsE (.yld n :: toL caps) 1 .nil) h m 0)) .fail) .fail) .fail
  | none => .fail
def one1 (f : AV → H → Nat → RR) (l : List AV) (h : H) (n : Nat) : RR := match l with
  | [v] => f v h n
  | _ => .fail
def rfX (f : AV) (L : Lv) (e : Env) (one : Env → H → Nat → RR) (d : Nat) (h : H) (n : Nat) : RR := match f with
    | .func g caps => iterX L.call (one1 fun v h n => backX e (one (putE e d v) h n)) caps e h n (L.iter g)
    | _ => .fail
def xRf (f : Sx) (d : Nat) (a b : X) : X := fun L e h n => rfX (f [] e) L e (fun e h n => nrmX (fun e h n => b L e h n) (a L e h n)) d h n
def xExit (id : Nat) : X := fun _ e h n => .ext id e h n
def xRet : X := fun _ e h n => .ret e h n
def xBad : X := fun _ _ _ _ => .fail
inductive LRes where
  | tmp (k : Nat)
  | cell1 (k : Nat)
  | cellN (k size : Nat)
  deriving Inhabited
structure LF where
  results : List LRes
  body : X
def resOne (e : Env) (h : H) (n : Nat) (r : LRes) (k : K) : RR := match r with
  | .tmp i => k (sT i [] e) h n
  | .cell1 i => asPtr (sT i [] e) fun b off => rdO off (getO h b) h n k
  | .cellN i m => asPtr (sT i [] e) fun b off => rdNO off m (getO h b) h n k
def resAll (e : Env) (h : H) (n : Nat) : List LRes → (AV → RR) → RR
  | [], k => k .nl
  | r :: l, k => resOne e h n r fun v _ _ => resAll e h n l fun vs => k (.cons v vs)
def resK (e : Env) (h : H) (n : Nat) (l : List LRes) (k : K) : RR := match l with
  | [r] => resOne e h n r k
  | l => resAll e h n l fun vs => k (.tup vs) h n
structure Cx where
  code : Nat → Option LF
  intr : Nat → Option (List AV → H → Nat → K → RR)
  iter : IterT
def endF (rs : List LRes) (k : K) (r : RR) : RR :=
  @RR.casesOn (fun _ => RR) r .fail (fun e h n => resK e h n rs k) (fun _ _ _ _ => .fail) (fun e h n => resK e h n rs k) (fun _ _ _ => .fail)
def runF (L : Lv) (lf : LF) (args : List AV) (h : H) (n : Nat) (k : K) : RR := br (Nat.ble (lenL args) 1000000) (endF lf.results k (lf.body L (argsE args 1 .nil) h n)) .fail
def enterC (L : Lv) (args : List AV) (h : H) (n : Nat) (k : K) : Option LF → RR
  | some lf => runF L lf args h n k
  | none => .fail
def enterI (args : List AV) (h : H) (n : Nat) (k : K) (r : RR) : Option (List AV → H → Nat → K → RR) → RR
  | some i => i args h n k
  | none => r
def lvI (cx : Cx) : Nat → Lv
  | 0 => ⟨fun _ _ _ _ _ => .fail, cx.iter⟩
  | d + 1 => ⟨fun f args h n k => enterI args h n k (enterC (lvI cx d) args h n k (cx.code f)) (cx.intr f), cx.iter⟩
def lv (cx : Cx) (d : Nat) : Lv :=
  @Nat.rec (fun _ => Lv) ⟨fun _ _ _ _ _ => .fail, cx.iter⟩
    (fun _ L => ⟨fun f args h n k => enterI args h n k (enterC L args h n k (cx.code f)) (cx.intr f), cx.iter⟩) d
end
end Go.VE
namespace Go.VE
noncomputable section
structure TI where
  und : TypeDesc
  size : Nat
  bytes : Nat
  zero : Option Value
  methods : Array Method
  deriving Inhabited
def T.ofL {α : Type} : List α → Nat → T α → T α
  | [], _, t => t
  | a :: l, k, t => T.ofL l (k + 1) (t.put (some a) k)
def undOf (types : T TypeInfo) (i : TypeInfo) : TypeDesc :=
  match i.desc with
  | .named _ u => match types.get (u + 1) with | some j => j.desc | none => .invalid
  | d => d
def tiOf (types : T TypeInfo) (i : TypeInfo) : TI := { und := undOf types i, size := i.size, bytes := i.bytes, zero := i.zero, methods := i.methods }
structure Tb where
  types : T TypeInfo
  list : List TypeInfo
  prom : List (Nat × String × Nat)
  eqf : TypeId → Bool
def ti (tb : Tb) (t : TypeId) : Option TI := match tb.types.get (t + 1) with | some i => some (tiOf tb.types i) | none => none
def und (tb : Tb) (t : TypeId) : TypeDesc := match tb.types.get (t + 1) with | some i => undOf tb.types i | none => .invalid
def size (tb : Tb) (t : TypeId) : Nat := match tb.types.get (t + 1) with | some i => i.size | none => 0
def isU8 (tb : Tb) (t : TypeId) : Bool := match und tb t with | .int .u8 => true | _ => false
def isAg (tb : Tb) (t : TypeId) : Bool := match und tb t with | .struct _ => true | .array _ _ => true | _ => false
def nthL {α : Type} : Nat → List α → Option α
  | _, [] => none
  | 0, a :: _ => some a
  | n + 1, _ :: l => nthL n l
def packL : List UInt8 → Nat → Nat
  | [], x => x
  | b :: l, x => packL l (x * 256 + b.toNat)
def encI (k : IntKind) (n : Int) : Nat := (n % (moN (kindN k) : Int)).toNat
def inI (k : IntKind) (n : Int) : Bool := decide (k.min ≤ n) && decide (n ≤ k.max)
mutual
def lowV : Value → Option AV
  | .bool b => some (.bool b)
  | .int k n => br (inI k n) (some (.int (kindN k) (encI k n))) none
  | .string s => some (.str s.size (packL s.data.toList 0))
  | .pointer none => some .nilp
  | .slice none 0 0 => some .nils
  | .map none => some .nilm
  | .nilFunc => some .nilf
  | .nilIface => some .nili
  | .agg ⟨l⟩ => match lowVs l with | some l => br (okCs l) (some (.agg l)) none | none => none
  | .tuple ⟨l⟩ => match lowVs l with | some l => some (.tup l) | none => none
  | .iface t v => match lowV v with | some v => some (.iface t v) | none => none
  | _ => none
def lowVs : List Value → Option AV
  | [] => some .nl
  | v :: l => match lowV v, lowVs l with | some v, some l => some (.cons v l) | _, _ => none
end
def posOf (t : Nat) : List (Option Nat) → Nat → Option Nat
  | [], _ => none
  | some d :: l, k => bif Nat.beq d t then some k else posOf t l (k + 1)
  | none :: l, k => posOf t l (k + 1)
def lowT (ds : List (Option Nat)) (t : Nat) : Sx := match posOf t ds 0 with | some k => sL k | none => sT (t + 1)
def lowS (ds : List (Option Nat)) : Operand → Option Sx
  | .tmp t => some (lowT ds t)
  | .const v => match lowV v with | some v => some (sC v) | none => none
  | .global g => bif Nat.blt g KG then some (sC (.ptr g 0)) else none
  | .func f => some (sC (.func f .nl))
def lowSs (ds : List (Option Nat)) : List Operand → Option (List Sx)
  | [] => some []
  | x :: l => match lowS ds x, lowSs ds l with | some x, some l => some (x :: l) | _, _ => none
def lowO (ds : List (Option Nat)) : Option Operand → Option (Option Sx)
  | none => some none
  | some x => match lowS ds x with | some x => some (some x) | none => none
def isBld (tb : Tb) (t : TypeId) : Bool := match tb.types.get (t + 1) with | some i => (match i.desc with | .named n _ => n == "strings.Builder" | _ => false) | none => false
def zeroA (tb : Tb) (t : TypeId) : Option AV := match tb.types.get (t + 1) with | some i => i.zero.bind lowV | none => none
def zeroL (tb : Tb) (t : TypeId) : Option AV := match zeroA tb t with | some v => some (cellsA v) | none => none
def ok1 (ds : List (Option Nat)) (x : Operand) (f : Sx → Op') : Op' := match lowS ds x with | some x => f x | none => oBad
def ok2 (ds : List (Option Nat)) (x y : Operand) (f : Sx → Sx → Op') : Op' := match lowS ds x, lowS ds y with | some x, some y => f x y | _, _ => oBad
def ok3 (ds : List (Option Nat)) (x y z : Operand) (f : Sx → Sx → Sx → Op') : Op' := match lowS ds x, lowS ds y, lowS ds z with | some x, some y, some z => f x y z | _, _, _ => oBad
def lowParts (ds : List (Option Nat)) (size : Nat) : List (Nat × Operand) → Option (List (Nat × Nat × Sx))
  | [] => some []
  | (i, x) :: l => match lowS ds x, lowParts ds size l with | some x, some l => some ((i * size, size, x) :: l) | _, _ => none
def lowFields (ds : List (Option Nat)) (tb : Tb) (fs : Array Field) : List (Nat × Operand) → Option (List (Nat × Nat × Sx))
  | [] => some []
  | (i, x) :: l => match nthL i fs.toList, lowS ds x, lowFields ds tb fs l with
    | some f, some x, some l => some ((f.offset, size tb f.type, x) :: l)
    | _, _, _ => none
def lowElems (ds : List (Option Nat)) : List (Nat × Operand) → Option (List (Nat × Sx))
  | [] => some []
  | (i, x) :: l => match lowS ds x, lowElems ds l with | some x, some l => some ((i, x) :: l) | _, _ => none
def hasM (methods : List Method) (name : String) : Option (Nat × Bool) :=
  match methods with
  | [] => none
  | m :: l => bif m.name == name then (bif m.path.isEmpty then m.func else none) else hasM l name
def okRecv (d : TypeDesc) (pr : Bool) : Bool := match d with | .pointer _ => pr | .invalid => false | _ => !pr
def promRows (name : String) : List (Nat × String × Nat) → List (Nat × Nat)
  | [] => []
  | (t, m, f) :: l => bif m == name then (t, f) :: promRows name l else promRows name l
def methodRows (tb : Tb) (name : String) : List TypeInfo → Nat → List (Nat × Nat)
  | [], _ => []
  | i :: l, t => match hasM i.methods.toList name with
    | some (f, pr) => bif okRecv (undOf tb.types i) pr then (t, f) :: methodRows tb name l (t + 1) else methodRows tb name l (t + 1)
    | none => methodRows tb name l (t + 1)
def implements (want : Array (String × TypeId)) (i : TypeInfo) : Bool := want.all fun (n, s) => i.methods.any fun m => m.name == n && m.sig == s
def implRows (want : Array (String × TypeId)) : List TypeInfo → Nat → List Nat
  | [], _ => []
  | i :: l, t => bif implements want i then t :: implRows want l (t + 1) else implRows want l (t + 1)
def upN (k : Nat) : Nat := br (Nat.blt k 4) (hiN k) 0
def lowBuiltin (ds : List (Option Nat)) (tb : Tb) (b : Builtin) (argTypes : Array TypeId) (args : List Operand) : Op' :=
  let t0 := argTypes.getD 0 0
  match b, args with
  | .len, [x] => match und tb t0 with
    | .string => ok1 ds x oLenS
    | .slice _ => ok1 ds x oLenSl
    | .map _ _ => ok1 ds x oLenM
    | .array n _ => oLenC n
    | .pointer a => match und tb a with | .array n _ => oLenC n | _ => oBad
    | _ => oBad
  | .cap, [x] => match und tb t0 with | .slice _ => ok1 ds x oCap | _ => oBad
  | .min, [x, y] => match und tb t0 with | .int k => ok2 ds x y (oMin (kindN k) (upN (kindN k)) (moN (kindN k))) | _ => oBad
  | .max, [x, y] => match und tb t0 with | .int k => ok2 ds x y (oMax (kindN k) (upN (kindN k)) (moN (kindN k))) | _ => oBad
  | .clear, [x] => match und tb t0 with | .map _ _ => ok1 ds x oClear | _ => oBad
  | .append, [x, y] => match und tb t0 with
    | .slice e => match tb.types.get (e + 1), zeroL tb e with
      | some i, some z => (match und tb (argTypes.getD 1 0) with
        | .int _ => ok2 ds x y (oAppendZ i.size i.bytes (isU8 tb e) z)
        | .string => bif isU8 tb e then ok2 ds x y (oAppB e) else oBad
        | .slice _ => ok2 ds x y (oAppend i.size i.bytes)
        | _ => oBad)
      | _, _ => oBad
    | _ => oBad
  | .unsafeSliceData, [x] => match und tb t0 with | .slice _ => ok1 ds x oUsd | _ => oBad
  | .unsafeString, [x, y] => match und tb t0 with | .pointer e => bif isU8 tb e then ok2 ds x y (oUst e) else oBad | _ => oBad
  | .copy, [x, y] => match und tb t0 with | .slice e => ok2 ds x y (oCopy (size tb e)) | _ => oBad
  | _, _ => oBad
def isC : Operand → Bool | .const _ => true | _ => false
def tag1 (tb : Tb) (t : TypeId) : Option Nat := match und tb t with
  | .bool => some 9 | .int k => some (kindN k) | .string => some 8
  | _ => none
def tagsF (tb : Tb) : Nat → List Field → Option (List Nat)
  | _, [] => some []
  | o, f :: l => bif decide (f.name = "_") || !(Nat.beq f.offset o) then none else match tag1 tb f.type, tagsF tb (o + 1) l with | some a, some b => some (a :: b) | _, _ => none
def lowEq (ds : List (Option Nat)) (op : BinOp) (f : AV → AV → Option Bool) (x y : Operand) : Op' := match op with
  | .eql => ok2 ds x y (oEq f)
  | .neq => ok2 ds x y (oNe f)
  | _ => oBad
def eqDyn (tb : Tb) (s : Nat) (a b : AV) : Option Bool := match tb.types.get (s + 1) with
  | some i => br i.comparable (match undOf tb.types i with | .int k => eqI (kindN k) a b | _ => none) none
  | none => none
def eqIfT (tb : Tb) : AV → AV → Option Bool
  | .nili, .iface _ _ => some false | .iface _ _, .nili => some false
  | .iface s a, .iface u b => br (Nat.beq s u) (eqDyn tb s a b) (some false)
  | _, _ => none
def lowBin (ds : List (Option Nat)) (tb : Tb) (op : BinOp) (t : TypeId) (x y : Operand) : Op' :=
  match und tb t with
  | .int k =>
    let kd := kindN k
    match op with
    | .add => ok2 ds x y (oAdd kd (moN kd))
    | .sub => ok2 ds x y (oSub kd (moN kd))
    | .mul => ok2 ds x y (oMul kd (moN kd))
    | .quo => ok2 ds x y (oQuo kd (hiN kd))
    | .rem => ok2 ds x y (oRem kd (hiN kd))
    | .and => ok2 ds x y (oAnd kd)
    | .or => ok2 ds x y (oOr kd)
    | .xor => ok2 ds x y (oXor kd)
    | .andNot => ok2 ds x y (oClr kd (moN kd))
    | .shl => ok2 ds x y (oShl kd (biN kd) (moN kd))
    | .shr => ok2 ds x y (oShr kd (biN kd) (hiN kd))
    | .lss => ok2 ds x y (oLt kd (upN kd) (moN kd))
    | .leq => ok2 ds x y (oLe kd (upN kd) (moN kd))
    | .gtr => ok2 ds y x (oLt kd (upN kd) (moN kd))
    | .geq => ok2 ds y x (oLe kd (upN kd) (moN kd))
    | .eql => ok2 ds x y (oEq (eqI kd))
    | .neq => ok2 ds x y (oNe (eqI kd))
  | .string => match op with
    | .add => ok2 ds x y oCat
    | .lss => ok2 ds x y oLtS
    | .leq => ok2 ds x y oLeS
    | .gtr => ok2 ds y x oLtS
    | .geq => ok2 ds y x oLeS
    | .eql => ok2 ds x y (oEq eqS)
    | .neq => ok2 ds x y (oNe eqS)
    | _ => oBad
  | .interface _ => match op, y with
    | .eql, .const .nilIface => ok1 ds x oEqN
    | .neq, .const .nilIface => ok1 ds x oNeN
    | .eql, _ => ok2 ds x y (oEq (eqIfT tb))
    | .neq, _ => ok2 ds x y (oNe (eqIfT tb))
    | _, _ => oBad
  | .struct fs => bif tb.eqf t then (match tagsF tb 0 fs.toList with
    | some ts => lowEq ds op (eqSt ts) x y
    | none => oBad) else oBad
  | .bool => lowEq ds op eqB x y
  | .pointer e => bif Nat.blt 0 (size tb e) then lowEq ds op eqP2 x y else lowEq ds op eqP x y
  | .slice _ => lowEq ds op eqSl x y
  | .map _ _ => lowEq ds op eqM x y
  | .func _ _ _ => lowEq ds op eqF x y
  | _ => oBad
def lowOp (ds : List (Option Nat)) (tb : Tb) (o : Op) : Op' :=
  match o with
  | .move x | .assign x => ok1 ds x oMv
  | .pick c a b => ok3 ds c a b oPick
  | .alloc t => match und tb t with
    | .array n e => bif isU8 tb e then oNew (.bytes n 0) else match zeroL tb t with | some z => oNew (mkVar (isBld tb t) t z) | none => oBad
    | _ => match zeroL tb t with | some z => oNew (mkVar (isBld tb t) t z) | none => oBad
  | .box _ x => ok1 ds x oBox
  | .build t ps => match zeroL tb t, und tb t with
    | some z, .struct fs => match lowFields ds tb fs ps.toList with | some l => oBuild z l | none => oBad
    | some z, .array _ e => match lowParts ds (size tb e) ps.toList with | some l => oBuild z l | none => oBad
    | _, _ => oBad
  | .buildSlice t n ps => match und tb t, lowElems ds ps.toList with
    | .slice e, some l => match zeroL tb e with
      | some z => bif isU8 tb e then oBuildBs n l else oBuildSl n (size tb e) z l
      | none => oBad
    | _, _ => oBad
  | .insert t m k x | .mapUpdate t m k x => match und tb t with | .map kt _ => (match und tb kt with | .int _ => ok3 ds m k x (oMapSet false) | .string => ok3 ds m k x (oMapSet true) | _ => oBad) | _ => oBad
  | .load t a => match und tb t with | .invalid => oBad | _ => bif isAg tb t then ok1 ds a (oLoadN (size tb t)) else ok1 ds a oLoad1
  | .store t a x => ok2 ds a x (oStore (size tb t))
  | .nilCheck x => ok1 ds x oNilck
  | .binOp op t x y _ => lowBin ds tb op t x y
  | .unOp op t x => match op, und tb t with | .not, _ => ok1 ds x oNot | .neg, .int k => ok1 ds x (oNeg (kindN k) (moN (kindN k))) | _, _ => oBad
  | .convert s d x => match und tb s, und tb d with
    | .int _, .int k => ok1 ds x (oToInt (kindN k) (moN (kindN k)))
    | .string, .string => ok1 ds x oStr
    | .string, .slice e => bif isU8 tb e then ok1 ds x oStrToBs else oBad
    | .slice e, .string => bif isU8 tb e then ok1 ds x oBsToStr else oBad
    | .slice _, .slice e => bif s == d && isU8 tb e then ok1 ds x oMark else oBad
    | .pointer t, .unsafePointer => bif Nat.blt 0 (size tb t) then ok1 ds x oP2U else oBad
    | .unsafePointer, .pointer u => bif Nat.blt 0 (size tb u) then ok1 ds x (oU2P u (size tb u)) else oBad
    | _, _ => oBad
  | .makeInterface t x => match und tb t with | .interface _ => oBad | _ => ok1 ds x (oMkIf t)
  | .makeFunc (.func f) first caps => bif first.isEmpty then (match lowSs ds caps.toList with | some l => oMkFn f l | none => oBad) else oBad
  | .makeMap _ none => oMkMap
  | .makeSlice t l c => match und tb t with
    | .slice e => match tb.types.get (e + 1), zeroL tb e with
      | some i, some z => bif isU8 tb e then ok2 ds l c oMkBs else ok2 ds l c (oMkSl i.size i.bytes z)
      | _, _ => oBad
    | _ => oBad
  | .slice t x lo hi mx => match und tb t, lowS ds x, lowO ds lo, lowO ds hi, lowO ds mx with
    | .string, some x, some lo, some hi, some none => oSliceS x lo hi
    | .slice e, some x, some lo, some hi, some mx => oSlice (size tb e) x lo hi mx
    | .array n e, some x, some lo, some hi, some mx => oSliceA n (size tb e) x lo hi mx
    | .pointer a, some x, some lo, some hi, some mx => match und tb a with
      | .array n e => oSliceA n (size tb e) x lo hi mx
      | _ => oBad
    | _, _, _, _, _ => oBad
  | .fieldAddr s x f => match und tb s with
    | .struct fs => match nthL f fs.toList with
      | some f => bif Nat.beq (size tb f.type) 0 then oBad else ok1 ds x (oFaddr f.offset)
      | none => oBad
    | _ => oBad
  | .field t x f => match und tb t with
    | .struct fs => match nthL f fs.toList with
      | some f => ok1 ds x (oPart f.offset (bif isAg tb f.type then some (size tb f.type) else none))
      | none => oBad
    | _ => oBad
  | .indexAddr t x i => match und tb t with
    | .array n e => ok2 ds x i (oIaddrA n (size tb e))
    | .slice e => ok2 ds x i (oIaddr (size tb e))
    | _ => oBad
  | .index t x i => match und tb t with
    | .array n e => ok2 ds x i (oIdxA n (size tb e) (isAg tb e))
    | .string => ok2 ds x i oIdxS
    | _ => oBad
  | .lookup t m k ok => match und tb t with
    | .map kt e => match zeroA tb e, und tb kt with | some z, .int _ => ok2 ds m k (oLookup false z ok) | some z, .string => ok2 ds m k (oLookup true z ok) | _, _ => oBad
    | _ => oBad
  | .extract t i => ok1 ds t (oExt · i)
  | .typeAssert x _ a true => match und tb a with
    | .interface want => ok1 ds x (oAsrtI (lenL tb.list) (implRows want tb.list 0))
    | _ => match zeroA tb a with | some z => ok1 ds x (oAsrtT a z) | none => oBad
  | .call c => match lowSs ds c.args.toList with
    | none => oBad
    | some args => match c.callee with
      | .value (.func f) => oCall f args
      | .value f => ok1 ds f (oCallV · args)
      | .invoke r m => ok1 ds r (oInvoke (promRows m tb.prom) (methodRows tb m tb.list 0) · args)
      | .builtin b => lowBuiltin ds tb b c.argTypes c.args.toList
  | _ => oBad
def guardOf (ds : List (Option Nat)) (cur : Nat) : Option (Nat × Bool) → Option (Option (Nat × Bool))
  | none => some none
  | some (j, b) => bif Nat.blt j cur then (match nthL (cur - 1 - j) ds with
    | some (some d) => (match posOf d ds 0 with | some p => bif Nat.beq p (cur - 1 - j) then some (some (p, b)) else none | none => none)
    | _ => none) else none
def badOper : LOper := { dst := 0, guard := none, op := oBad }
def okDst (nt : Nat) : Option Nat → Bool | none => true | some d => Nat.blt d nt
def slotOf (g : List Nat) : Option Nat → Nat | some d => bif memN d g then d + 1 else 0 | none => 0
def lowOper (nt : Nat) (g : List Nat) (tb : Tb) (ds : List (Option Nat)) (cur : Nat) (o : Oper) : LOper :=
  match guardOf ds cur o.guard with
  | some gd => bif okDst nt o.dst then { dst := slotOf g o.dst, guard := gd, op := lowOp ds tb o.op } else badOper
  | none => badOper
def lowOps (nt : Nat) (g : List Nat) (tb : Tb) : List (Option Nat) → Nat → List Oper → List LOper
  | _, _, [] => []
  | ds, cur, o :: l => lowOper nt g tb ds cur o :: lowOps nt g tb (o.dst :: ds) (cur + 1) l
def addN (n : Nat) (l : List Nat) : List Nat := bif memN n l then l else n :: l
def readsS (ds : List (Option Nat)) (x : Operand) (acc : List Nat) : List Nat := match x with
  | .tmp t => match posOf t ds 0 with | some _ => acc | none => addN t acc
  | _ => acc
def readsL (ds : List (Option Nat)) : List Operand → List Nat → List Nat
  | [], acc => acc
  | x :: l, acc => readsL ds l (readsS ds x acc)
def readsOps : List (Option Nat) → List Oper → List Nat → List Nat
  | _, [], acc => acc
  | ds, o :: l, acc => readsOps (o.dst :: ds) l (readsL ds o.op.operands.toList acc)
def readsC : Code → List Nat → List Nat
  | .region _ ops _, acc => readsOps [] ops.toList acc
  | .seq a b, acc => readsC b (readsC a acc)
  | .cond c a b, acc => readsC b (readsC a (readsS [] c acc))
  | .block _ b, acc => readsC b acc
  | .loop b, acc => readsC b acc
  | .rangeFunc f _ a b, acc => readsC b (readsC a (readsS [] f acc))
  | .scope b, acc => readsC b acc
  | _, acc => acc
def readsR : List ResultVar → List Nat → List Nat
  | [], acc => acc
  | .tmp t :: l, acc => readsR l (addN t acc)
  | .cell t _ :: l, acc => readsR l (addN t acc)
def lowRes1 (tb : Tb) : ResultVar → Option LRes
  | .tmp t => some (.tmp (t + 1))
  | .cell t ty => match und tb ty with | .invalid => none | _ => some (bif isAg tb ty then .cellN (t + 1) (size tb ty) else .cell1 (t + 1))
def lowRes (tb : Tb) : List ResultVar → Option (List LRes)
  | [] => some []
  | r :: l => match lowRes1 tb r, lowRes tb l with | some r, some l => some (r :: l) | _, _ => none
end
end Go.VE
namespace Go.VE
noncomputable section
open Go
def clsOp (tb : Tb) : Op → Nat
  | .load _ _ => 1
  | .lookup _ _ _ _ => 1
  | .slice t _ _ _ _ => match und tb t with | .slice _ => 1 | _ => 2
  | .convert s d _ => match und tb s, und tb d with
    | _, .slice _ => 0
    | _, .unsafePointer => 0
    | .unsafePointer, _ => 0
    | .slice _, _ => 1
    | _, _ => 2
  | .move _ | .assign _ | .pick _ _ _ | .build _ _ | .nilCheck _ | .binOp _ _ _ _ _ | .unOp _ _ _ | .makeInterface _ _ | .makeFunc _ _ _ | .fieldAddr _ _ _ | .field _ _ _
  | .indexAddr _ _ _ | .index _ _ _ | .typeAssert _ _ _ _ | .extract _ _ => 2
  | .call c => match c.callee with
    | .builtin .len => match und tb (c.argTypes.getD 0 0) with | .map _ _ => 1 | _ => 2
    | .builtin .cap | .builtin .min | .builtin .max => 2
    | _ => 0
  | _ => 0
def maskE (acc : List Nat) : List Edge → Nat → Nat
  | [], s => s
  | e :: l, s => maskE acc l (bif Region.binds .any e then Nat.lor (Nat.lor s (2 ^ e.on)) ((nthL e.on acc).getD 0) else s)
def befsGo : List Oper → List Nat → List Nat
  | [], acc => acc
  | o :: l, acc => befsGo l (acc ++ [maskE acc o.after.toList 0])
def befs (ops : List Oper) : List Nat := befsGo ops []
def ahead (bs : List Nat) (i j : Nat) : Bool := ((nthL i bs).getD 0).testBit j
def effs : List Nat → Nat → List Nat
  | [], _ => []
  | c :: l, k => bif Nat.beq c 0 then k :: effs l (k + 1) else effs l (k + 1)
def winds (bs : List Nat) (m i : Nat) : List Nat → List Nat → List Nat
  | done, [] => bif done.all (fun c => !ahead bs c i) then [m] else []
  | done, c :: rest => (bif (done.all fun d => !ahead bs d i) && ((c :: rest).all fun d => !ahead bs i d) then [c] else []) ++ winds bs m i (done ++ [c]) rest
def nextEff (m i : Nat) : List Nat → Nat
  | [] => m
  | c :: l => bif Nat.blt c i then nextEff m i l else c
def windsOf (bs : List Nat) (m i : Nat) (es : List Nat) : List Nat := (winds bs m i [] es).filter fun q => !Nat.beq q (nextEff m i es)
structure DOper where
  lo : LOper
  cls : Nat
  qs : List Nat
def finK : K := fun v h n => .fin v h n
def bindF (r : RR) (f : AV → H → Nat → RR) : RR :=
  @RR.casesOn (fun _ => RR) r .fail (fun _ _ _ => .fail) (fun _ _ _ _ => .fail) (fun _ _ _ => .fail) (fun v h n => f v h n)
def stepD (cls : Nat) (m : K → RR) (k : K) : RR := br (Nat.beq cls 0) (bindF (m finK) k) (m k)
abbrev Sts := List (H × Nat)
def runDI (call : CallT) (e0 : Env) (fin : List AV → Sts → Env → H → Nat → RR) : List DOper → List AV → Sts → Env → H → Nat → RR
  | [], ls, sts, e, h, n => fin ls sts e h n
  | o :: l, ls, sts, e, h, n => br (wantedA ls o.lo.guard)
      (stepD o.cls (o.lo.op call ls e0 h n) fun v h' n' => runDI call e0 fin l (v :: ls) ((h, n) :: sts) (putE e o.lo.dst v) h' n')
      (runDI call e0 fin l (.undef :: ls) ((h, n) :: sts) (putE e o.lo.dst .undef) h n)
def runD (call : CallT) (e0 : Env) (fin : List AV → Sts → Env → H → Nat → RR) (l : List DOper) : List AV → Sts → Env → H → Nat → RR :=
  @List.rec DOper (fun _ => List AV → Sts → Env → H → Nat → RR) (fun ls sts e h n => fin ls sts e h n)
    (fun o _ go ls sts e h n => br (wantedA ls o.lo.guard)
      (stepD o.cls (o.lo.op call ls e0 h n) fun v h' n' => go (v :: ls) ((h, n) :: sts) (putE e o.lo.dst v) h' n')
      (go (.undef :: ls) ((h, n) :: sts) (putE e o.lo.dst .undef) h n)) l
def eqAV : AV → AV → Bool
  | .undef, .undef => true
  | .int k u, .int j v => br (Nat.beq k j) (Nat.beq u v) false
  | .bool a, .bool b => br a b (!b)
  | .ptr b o, .ptr c p => br (Nat.beq b c) (Nat.beq o p) false
  | .sl b o l c x, .sl b' o' l' c' x' => br (Nat.beq b b') (br (Nat.beq o o') (br (Nat.beq l l') (br (Nat.beq c c') (br x x' (!x')) false) false) false) false
  | .str n x, .str m y => br (Nat.beq n m) (Nat.beq x y) false
  | .iface t v, .iface u w => br (Nat.beq t u) (eqAV v w) false
  | .nilp, .nilp => true | .nils, .nils => true | .nili, .nili => true | .nilm, .nilm => true | .nilf, .nilf => true
  | .map b, .map c => Nat.beq b c
  | .func f c, .func g d => br (Nat.beq f g) (eqAV c d) false
  | .agg l, .agg m => eqAV l m
  | .tup l, .tup m => eqAV l m
  | .nl, .nl => true
  | .cons a l, .cons b m => br (eqAV a b) (eqAV l m) false
  | _, _ => false
def atS (q : Nat) (sts : Sts) (f : H → Nat → RR) : RR := match nthL q sts with | some s => f s.1 s.2 | none => .fail
def chkQsI (op : H → Nat → K → RR) (v : AV) (sts : Sts) (next : RR) : List Nat → RR
  | [] => next
  | q :: qs => atS q sts fun h n => op h n fun v' _ _ => br (eqAV v v') (chkQsI op v sts next qs) .fail
def chkQs (op : H → Nat → K → RR) (v : AV) (sts : Sts) (next : RR) (qs : List Nat) : RR :=
  @List.rec Nat (fun _ => RR) next (fun q _ r => atS q sts fun h n => op h n fun v' _ _ => br (eqAV v v') r .fail) qs
def chkDI (call : CallT) (e0 : Env) (sts : Sts) (next : RR) : List DOper → List AV → RR
  | [], _ => next
  | o :: l, ls => @List.casesOn AV (fun _ => RR) ls .fail fun v ls => br (wantedA ls o.lo.guard) (chkQs (o.lo.op call ls e0) v sts (chkDI call e0 sts next l ls) o.qs) (chkDI call e0 sts next l ls)
def chkD (call : CallT) (e0 : Env) (sts : Sts) (next : RR) (l : List DOper) : List AV → RR :=
  @List.rec DOper (fun _ => List AV → RR) (fun _ => next)
    (fun o _ go ls => @List.casesOn AV (fun _ => RR) ls .fail fun v ls => br (wantedA ls o.lo.guard) (chkQs (o.lo.op call ls e0) v sts (go ls) o.qs) (go ls)) l
def xDraw (l rl : List DOper) : X := fun L e h n => runD L.call e (fun ls sts e' h' n' => chkD L.call e ((h', n') :: sts) (.nrm e' h' n') rl ls) l [] [] e h n
def lowD (nt : Nat) (g : List Nat) (tb : Tb) (bs : List Nat) (m : Nat) (es : List Nat) : List (Option Nat) → Nat → List Oper → List DOper
  | _, _, [] => []
  | ds, cur, o :: l =>
    { lo := lowOper nt g tb ds cur o, cls := clsOp tb o.op, qs := bif Nat.beq (clsOp tb o.op) 1 then (windsOf bs m cur es).map (m - ·) else [] } :: lowD nt g tb bs m es (o.dst :: ds) (cur + 1) l
def lowDs (nt : Nat) (g : List Nat) (tb : Tb) (ops : List Oper) : List DOper := lowD nt g tb (befs ops) ops.length (effs (ops.map fun o => clsOp tb o.op) 0) [] 0 ops
def xDrawn (nt : Nat) (g : List Nat) (tb : Tb) (ops : List Oper) : X := xDraw (lowDs nt g tb ops) (lowDs nt g tb ops).reverse
def tmpsOf : List Operand → List Nat
  | [] => []
  | .tmp t :: l => t :: tmpsOf l
  | _ :: l => tmpsOf l
def readOk (bs : List Nat) (i t : Nat) : List Oper → Nat → Bool
  | [], _ => true
  | o :: l, j => (bif o.dst == some t then (bif Nat.blt j i then ahead bs i j else Nat.beq i j || ahead bs j i) else true) && readOk bs i t l (j + 1)
def opDrawOk (bs : List Nat) (ops : List Oper) (i : Nat) (o : Oper) : Bool :=
  (o.after.toList.all fun e => !Region.binds .any e || Nat.blt e.on i) && ((tmpsOf o.op.operands.toList).all fun t => readOk bs i t ops 0) &&
  (match o.guard with | none => true | some (j, _) => ahead bs i j) && (match o.op with | .select _ _ => false | _ => true)
def opsDrawOk (bs : List Nat) (all : List Oper) : List Oper → Nat → Bool
  | [], _ => true
  | o :: l, i => opDrawOk bs all i o && opsDrawOk bs all l (i + 1)
def fltKind (tb : Tb) : Op → Bool
  | .alloc _ => true
  | .buildSlice t _ _ => match und tb t with | .slice e => !isU8 tb e | _ => false
  | _ => false
def firstFlt (bs es : List Nat) : List Nat → Option Nat
  | [] => none
  | d :: l => bif es.any fun c => Nat.blt c d && !ahead bs d c then some d else firstFlt bs es l
def fltOk1 (tb : Tb) (ops : List Oper) (d : Nat) : Bool := match nthL d ops with | some o => fltKind tb o.op && o.guard.isNone | none => false
def fltIdx (tb : Tb) (ops : List Oper) (bs es : List Nat) : Nat := match firstFlt bs es es with | some d => (bif fltOk1 tb ops d then d else ops.length) | none => ops.length
def chainOk (bs : List Nat) (f : Nat) : List Nat → Bool
  | c :: l => (l.all fun d => ahead bs d c || Nat.beq d f) && chainOk bs f l
  | [] => true
def fltAll (bs es : List Nat) (f : Nat) : Nat → Bool
  | 0 => true
  | j + 1 => (!ahead bs j f || es.all fun c => !Nat.blt c f || ahead bs j c) && fltAll bs es f j
def onceOk : List Nat → Bool
  | [] => true
  | d :: l => !memN d l && onceOk l
def drawOk (tb : Tb) (ops : List Oper) : Bool :=
  opsDrawOk (befs ops) ops ops 0 && (chainOk (befs ops) (fltIdx tb ops (befs ops) (effs (ops.map fun o => clsOp tb o.op) 0)) (effs (ops.map fun o => clsOp tb o.op) 0) && fltAll (befs ops) (effs (ops.map fun o => clsOp tb o.op) 0) (fltIdx tb ops (befs ops) (effs (ops.map fun o => clsOp tb o.op) 0)) ops.length) && onceOk (ops.filterMap (·.dst))
def drawsOk (tb : Tb) : Code → Bool
  | .region _ ops true => drawOk tb ops.toList
  | .seq a b | .cond _ a b | .rangeFunc _ _ a b => drawsOk tb a && drawsOk tb b
  | .block _ b | .loop b | .scope b => drawsOk tb b
  | _ => true
end
end Go.VE
namespace Go.VE
noncomputable section
open Go
inductive GOp where
  | pl (o : LOper)
  | yl (dst : Nat) (guard : Option (Nat × Bool)) (f : Sx) (args : List Sx)
def ofRR (p : Nat) (r : RR) : GR :=
  @RR.casesOn (fun _ => GR) r .fail (fun e h n => .nrm e h n p) (fun id e h n => .ext id e h n p) (fun e h n => .ret e h n p) (fun _ _ _ => .fail)
def bindG (r : RR) (f : AV → H → Nat → GR) : GR :=
  @RR.casesOn (fun _ => GR) r .fail (fun _ _ _ => .fail) (fun _ _ _ _ => .fail) (fun _ _ _ => .fail) (fun v h n => f v h n)
def yieldG (r : RR) (k : Bool → H → Nat → Nat → GR) : GR :=
  @RR.casesOn (fun _ => GR) r .fail (fun _ h n => k true h n 0) (fun id _ h n => frc (id + 2) fun p => k false h n p) (fun _ h n => k false h n 1) (fun _ _ _ => .fail)
def isYld (b : Nat) (v : AV) : Bool := match v with | .yld c => Nat.beq c b | _ => false
def thenG (k : Env → H → Nat → Nat → GR) (r : GR) : GR :=
  @GR.casesOn (fun _ => GR) r .fail k (fun id e h n p => .ext id e h n p) (fun e h n p => .ret e h n p)
def outG (id : Nat) (r : GR) : GR :=
  @GR.casesOn (fun _ => GR) r .fail (fun e h n p => .nrm e h n p) (fun j e h n p => br (Nat.beq j id) (.nrm e h n p) (.ext j e h n p)) (fun e h n p => .ret e h n p)
abbrev GoT := List AV → Env → H → Nat → Nat → GR
def stepG (call : CallT) (Y : YT) (b : Nat) (o : GOp) (go : GoT) : GoT := fun ls e h n p =>
  @GOp.casesOn (fun _ => GR) o
    (fun o => br (wantedA ls o.guard) (bindG (o.op call ls e h n finK) fun v h n => go (v :: ls) (putE e o.dst v) h n p) (go (.undef :: ls) (putE e o.dst .undef) h n p))
    (fun d gd f args => br (wantedA ls gd) (br (isYld b (f ls e)) (br (Nat.beq p 0) (yieldG (Y (evL args ls e) h n) fun t h n p => go (.bool t :: ls) (putE e d (.bool t)) h n p) .fail) .fail) (go (.undef :: ls) (putE e d .undef) h n p))
def runGI (call : CallT) (Y : YT) (b : Nat) : List GOp → GoT
  | [], _, e, h, n, p => .nrm e h n p
  | o :: l, ls, e, h, n, p => stepG call Y b o (runGI call Y b l) ls e h n p
def runG (call : CallT) (Y : YT) (b : Nat) (l : List GOp) : GoT :=
  @List.rec GOp (fun _ => GoT) (fun _ e h n p => .nrm e h n p) (fun o _ go ls e h n p => stepG call Y b o go ls e h n p) l
def loopGI (b : Env → H → Nat → Nat → GR) : Nat → Env → H → Nat → Nat → GR
  | 0, _, _, _, _ => .fail
  | k + 1, e, h, n, p => thenG (loopGI b k) (b e h n p)
def loopG (b : Env → H → Nat → Nat → GR) (f : Nat) : Env → H → Nat → Nat → GR :=
  @Nat.rec (fun _ => Env → H → Nat → Nat → GR) (fun _ _ _ _ => .fail) (fun _ go e h n p => thenG go (b e h n p)) f
def gBad : XG := fun _ _ _ _ _ _ _ => .fail
def gOps (l : List GOp) : XG := fun call Y b e h n p => runG call Y b l [] e h n p
def gX (x : X) : XG := fun call _ _ e h n p => ofRR p (x ⟨call, fun _ => none⟩ e h n)
def gSeq (x y : XG) : XG := fun call Y b e h n p => thenG (fun e h n p => y call Y b e h n p) (x call Y b e h n p)
def condG (v : AV) (x y : GR) : GR := match v with | .bool t => br t x y | _ => .fail
def gCond (c : Sx) (x y : XG) : XG := fun call Y b e h n p => condG (c [] e) (x call Y b e h n p) (y call Y b e h n p)
def gBlock (id : Nat) (x : XG) : XG := fun call Y b e h n p => outG id (x call Y b e h n p)
def gLoop (x : XG) : XG := fun call Y b e h n p => loopG (x call Y b) 1000000 e h n p
def lowGOper (nt : Nat) (g : List Nat) (tb : Tb) (ds : List (Option Nat)) (cur : Nat) (o : Oper) : GOp := match o.op with
  | .call c => match c.callee with
    | .value (.tmp t) => match guardOf ds cur o.guard, lowSs ds c.args.toList with
      | some gd, some args => bif okDst nt o.dst then .yl (slotOf g o.dst) gd (lowT ds t) args else .pl badOper
      | _, _ => .pl badOper
    | _ => .pl (lowOper nt g tb ds cur o)
  | _ => .pl (lowOper nt g tb ds cur o)
def lowGOps (nt : Nat) (g : List Nat) (tb : Tb) : List (Option Nat) → Nat → List Oper → List GOp
  | _, _, [] => []
  | ds, cur, o :: l => lowGOper nt g tb ds cur o :: lowGOps nt g tb (o.dst :: ds) (cur + 1) l
def lowGC (nt : Nat) (g : List Nat) (tb : Tb) : Code → XG
  | .skip => gX xSkip
  | .region _ ops false => gOps (lowGOps nt g tb [] 0 ops.toList)
  | .region _ ops true => gX (xDrawn nt g tb ops.toList)
  | .seq a b => gSeq (lowGC nt g tb a) (lowGC nt g tb b)
  | .cond c a b => match lowS [] c with | some c => gCond c (lowGC nt g tb a) (lowGC nt g tb b) | none => gBad
  | .block id b => gBlock id (lowGC nt g tb b)
  | .loop b => gLoop (lowGC nt g tb b)
  | .exit id => gX (xExit id)
  | .ret => gX xRet
  | .label _ => gX xSkip
  | _ => gBad
def lowGF (tb : Tb) (fn : Func) : Option LG :=
  match fn.body with
  | some c => some { ok := Nat.blt fn.ntmps 1000000 && fn.results.isEmpty, body := lowGC fn.ntmps (readsC c []) tb c }
  | none => none
end
end Go.VE
namespace Go.VE
noncomputable section
open Go
def lowC (nt : Nat) (g : List Nat) (tb : Tb) : Code → X
  | .skip => xSkip
  | .region _ ops false => xOps (lowOps nt g tb [] 0 ops.toList)
  | .region _ ops true => xDrawn nt g tb ops.toList
  | .seq a b => xSeq (lowC nt g tb a) (lowC nt g tb b)
  | .cond c a b => match lowS [] c with | some c => xCond c (lowC nt g tb a) (lowC nt g tb b) | none => xBad
  | .block id b => xBlock id (lowC nt g tb b)
  | .loop b => xLoop (lowC nt g tb b)
  | .rangeFunc f ps a b => match lowS [] f, ps.toList with | some f, [t] => bif Nat.blt t nt then xRf f (slotOf g (some t)) (lowC nt g tb a) (lowC nt g tb b) else xBad | _, _ => xBad
  | .exit id => xExit id
  | .scope b => lowC nt g tb b
  | .label _ => xSkip
  | .goto _ => xBad
  | .ret => xRet
  | .refuse _ => xBad
def lowF (tb : Tb) (fn : Func) : Option LF :=
  match fn.body, lowRes tb fn.results.toList with
  | some c, some rs => bif Nat.blt fn.ntmps 1000000 then some { results := rs, body := lowC fn.ntmps (readsR fn.results.toList (readsC c [])) tb c } else none
  | _, _ => none
def tbOf (p : Program) : Tb := { types := T.ofL p.types.toList 1 .nil, list := p.types.toList, prom := [], eqf := fun t => !p.stoodInHeld t && !p.eqGuardType p.depth t }
def tbP (p : Program) (prom : List (Nat × String × Nat)) : Tb := { types := T.ofL p.types.toList 1 .nil, list := p.types.toList, prom, eqf := fun t => !p.stoodInHeld t && !p.eqGuardType p.depth t }
def codeOf (p : Program) (tb : Tb) : T (Option LF) := T.ofL (p.funcs.toList.map (lowF tb)) 1 .nil
end
end Go.VE
namespace Go.VE
noncomputable section
theorem br_true {β : Type} (a b : β) : br true a b = a := rfl
theorem br_false {β : Type} (a b : β) : br false a b = b := rfl
theorem br_if {β : Type} (c : Bool) (a b : β) : br c a b = if c = true then a else b := by cases c <;> rfl
theorem frc_eq {β : Type} (x : Nat) (k : Nat → β) : frc x k = k x := by cases x <;> rfl
theorem T.get_nil {α : Type} (k : Nat) : (T.nil : T α).get k = none := rfl
theorem T.get_node {α : Type} (l : T α) (v : Option α) (r : T α) (k : Nat) :
    (T.node l v r).get k = if k = 1 then v else if k % 2 = 0 then l.get (k / 2) else r.get (k / 2) := by
  show br (Nat.beq k 1) v (br (Nat.beq (k % 2) 0) (l.get (k / 2)) (r.get (k / 2))) = _
  rw [br_if, br_if]
  simp [Nat.beq_eq]
theorem T.one_zero {α : Type} (v : Option α) (k : Nat) : T.one v 0 k = .nil := rfl
theorem T.one_succ {α : Type} (v : Option α) (f k : Nat) :
    T.one v (f + 1) k = if k = 1 then .node .nil v .nil else if k % 2 = 0 then .node (T.one v f (k / 2)) none .nil else .node .nil none (T.one v f (k / 2)) := by
  show br (Nat.beq k 1) _ (br (Nat.beq (k % 2) 0) _ _) = _
  rw [br_if, br_if]
  simp [Nat.beq_eq]; rfl
theorem T.put_nil {α : Type} (v : Option α) (k : Nat) : (T.nil : T α).put v k = T.one v 64 k := rfl
theorem T.put_node {α : Type} (v : Option α) (l : T α) (w : Option α) (r : T α) (k : Nat) :
    (T.node l w r).put v k = if k = 1 then .node l v r else if k % 2 = 0 then .node (l.put v (k / 2)) w r else .node l w (r.put v (k / 2)) := by
  show br (Nat.beq k 1) _ (br (Nat.beq (k % 2) 0) _ _) = _
  rw [br_if, br_if]
  simp [Nat.beq_eq]; rfl
theorem T.get_one {α : Type} (v : Option α) : ∀ (f k j : Nat), 1 ≤ k → 1 ≤ j → k < 2 ^ f → (T.one v f k).get j = if j = k then v else none
  | 0, k, j, h1, _, h2 => by simp at h2; omega
  | f + 1, k, j, h1, hj, h2 => by
    rw [T.one_succ]
    by_cases hk : k = 1
    · subst hk
      simp only [if_true, T.get_node, T.get_nil]
      by_cases hj1 : j = 1 <;> simp [hj1]
    · rw [if_neg hk]
      have hk2 : 1 ≤ k / 2 := by omega
      have hkf : k / 2 < 2 ^ f := by rw [Nat.pow_succ] at h2; omega
      by_cases he : k % 2 = 0
      · rw [if_pos he, T.get_node]
        by_cases hj1 : j = 1
        · rw [if_pos hj1, if_neg (by omega)]
        · rw [if_neg hj1]
          by_cases hje : j % 2 = 0
          · rw [if_pos hje, T.get_one v f (k / 2) (j / 2) hk2 (by omega) hkf]
            by_cases hjk : j = k
            · subst hjk; simp
            · rw [if_neg (by omega), if_neg hjk]
          · rw [if_neg hje, T.get_nil, if_neg (by omega)]
      · rw [if_neg he, T.get_node]
        by_cases hj1 : j = 1
        · rw [if_pos hj1, if_neg (by omega)]
        · rw [if_neg hj1]
          by_cases hje : j % 2 = 0
          · rw [if_pos hje, T.get_nil, if_neg (by omega)]
          · rw [if_neg hje, T.get_one v f (k / 2) (j / 2) hk2 (by omega) hkf]
            by_cases hjk : j = k
            · subst hjk; simp
            · rw [if_neg (by omega), if_neg hjk]
theorem T.get_put {α : Type} (v : Option α) (t : T α) : ∀ (k j : Nat), 1 ≤ k → 1 ≤ j → k < 2 ^ 64 → (t.put v k).get j = if j = k then v else t.get j := by
  induction t with
  | nil => intro k j h1 hj h2; rw [T.put_nil, T.get_one v 64 k j h1 hj h2, T.get_nil]
  | node l w r ihl ihr =>
    intro k j h1 hj h2
    rw [T.put_node]
    by_cases hk : k = 1
    · subst hk
      rw [if_pos rfl, T.get_node, T.get_node]
      by_cases hj1 : j = 1 <;> simp [hj1]
    · rw [if_neg hk]
      by_cases he : k % 2 = 0
      · rw [if_pos he, T.get_node, T.get_node]
        by_cases hj1 : j = 1
        · rw [if_pos hj1, if_neg (by omega), if_pos hj1]
        · rw [if_neg hj1, if_neg hj1]
          by_cases hje : j % 2 = 0
          · rw [if_pos hje, if_pos hje, ihl (k / 2) (j / 2) (by omega) (by omega) (by omega)]
            by_cases hjk : j = k
            · subst hjk; simp
            · rw [if_neg (by omega), if_neg hjk]
          · rw [if_neg hje, if_neg hje, if_neg (by omega)]
      · rw [if_neg he, T.get_node, T.get_node]
        by_cases hj1 : j = 1
        · rw [if_pos hj1, if_neg (by omega), if_pos hj1]
        · rw [if_neg hj1, if_neg hj1]
          by_cases hje : j % 2 = 0
          · rw [if_pos hje, if_pos hje, if_neg (by omega)]
          · rw [if_neg hje, if_neg hje, ihr (k / 2) (j / 2) (by omega) (by omega) (by omega)]
            by_cases hjk : j = k
            · subst hjk; simp
            · rw [if_neg (by omega), if_neg hjk]
def top : Nat := 18446744073709551615
theorem top_lt {k : Nat} (h : k < top) : k + 1 < 2 ^ 64 := by unfold top at h; omega
theorem getO_setO {h : H} {b c : Nat} {o : AO} (hb : b < top) : getO (setO h b o) c = if c = b then some o else getO h c := by
  unfold getO setO
  rw [T.get_put _ _ _ _ (by omega) (by omega) (top_lt hb)]
  by_cases hc : c = b
  · subst hc; simp
  · rw [if_neg (by omega), if_neg hc]
theorem getO_killO {h : H} {b c : Nat} (hb : b < top) : getO (killO h b) c = if c = b then none else getO h c := by
  unfold getO killO
  rw [T.get_put _ _ _ _ (by omega) (by omega) (top_lt hb)]
  by_cases hc : c = b
  · subst hc; simp
  · rw [if_neg (by omega), if_neg hc]
theorem cellAt_put {t : T AV} {i j : Nat} {v : AV} (hi : i < top) : cellAt (t.put (some v) (i + 1)) j = if j = i then v else cellAt t j := by
  unfold cellAt
  rw [T.get_put _ _ _ _ (by omega) (by omega) (top_lt hi)]
  by_cases hj : j = i
  · subst hj; simp [orU]
  · rw [if_neg (by omega), if_neg hj]
theorem nthD_nil (n : Nat) : nthD n [] = .undef := by cases n <;> rfl
theorem nthD_zero (v : AV) (l : List AV) : nthD 0 (v :: l) = v := rfl
theorem nthD_succ (n : Nat) (v : AV) (l : List AV) : nthD (n + 1) (v :: l) = nthD n l := rfl
theorem runOps_nil (call : CallT) (ls : List AV) (e : Env) (h : H) (n : Nat) : runOps call [] ls e h n = .nrm e h n := rfl
theorem runOps_cons (call : CallT) (o : LOper) (l : List LOper) (ls : List AV) (e : Env) (h : H) (n : Nat) :
    runOps call (o :: l) ls e h n = if wantedA ls o.guard = true then o.op call ls e h n (fun v h n => runOps call l (v :: ls) (putE e o.dst v) h n) else runOps call l (.undef :: ls) (putE e o.dst .undef) h n := by
  show br _ _ _ = _
  rw [br_if]; rfl
theorem loopN_zero (b : Env → H → Nat → RR) (e : Env) (h : H) (n : Nat) : loopN b 0 e h n = .fail := rfl
theorem loopN_succ (b : Env → H → Nat → RR) (f : Nat) (e : Env) (h : H) (n : Nat) : loopN b (f + 1) e h n = thenX (loopN b f) (b e h n) := rfl
theorem lv_zero (cx : Cx) (f : Nat) (args : List AV) (h : H) (n : Nat) (k : K) : (lv cx 0).call f args h n k = .fail := rfl
theorem lv_succ (cx : Cx) (d f : Nat) (args : List AV) (h : H) (n : Nat) (k : K) :
    (lv cx (d + 1)).call f args h n k = enterI args h n k (enterC (lv cx d) args h n k (cx.code f)) (cx.intr f) := rfl
theorem lv_iter (cx : Cx) (d : Nat) : (lv cx d).iter = cx.iter := by cases d <;> rfl
theorem putE_eq (e : Env) (d : Nat) (v : AV) : putE e d v = if d = 0 then e else e.put (some v) d := by
  unfold putE; rw [br_if]; simp [Nat.beq_eq]
end
end Go.VE
namespace Go.VE
noncomputable section
theorem packL_acc (l : List UInt8) : ∀ x, packL l x = x * 256 ^ l.length + packL l 0 := by
  induction l with
  | nil => intro x; simp [packL]
  | cons b l ih =>
    intro x
    simp only [packL, List.length_cons]
    rw [ih, ih (0 * 256 + b.toNat)]
    rw [Nat.pow_succ, Nat.add_mul, Nat.zero_mul, Nat.zero_add, Nat.mul_assoc, Nat.mul_comm 256]; omega
theorem packL_lt (l : List UInt8) : packL l 0 < 256 ^ l.length := by
  induction l with
  | nil => simp [packL]
  | cons b l ih =>
    simp only [packL, List.length_cons]
    rw [packL_acc, Nat.pow_succ]
    have hb : b.toNat < 256 := b.toNat_lt
    have : (0 * 256 + b.toNat) * 256 ^ l.length ≤ 255 * 256 ^ l.length := Nat.mul_le_mul_right _ (by omega)
    omega
theorem packL_append (a b : List UInt8) : packL (a ++ b) 0 = packL a 0 * 256 ^ b.length + packL b 0 := by
  have : ∀ x, packL (a ++ b) x = packL b (packL a x) := by
    induction a with
    | nil => intro x; rfl
    | cons c a ih => intro x; simp only [List.cons_append, packL]; exact ih _
  rw [this, packL_acc]
def packs (l : List UInt8) (n x : Nat) : Prop := l.length = n ∧ packL l 0 = x
theorem packs_nil : packs [] 0 0 := ⟨rfl, rfl⟩
theorem packs_cat {a b : List UInt8} {n x m y : Nat} (ha : packs a n x) (hb : packs b m y) : packs (a ++ b) (n + m) (catB x m y) := by
  obtain ⟨rfl, rfl⟩ := ha; obtain ⟨rfl, rfl⟩ := hb
  refine ⟨by simp, ?_⟩
  rw [packL_append]; unfold catB
  rw [Nat.shiftLeft_eq, Nat.pow_mul]
theorem pow256 (m : Nat) : 2 ^ (8 * m) = 256 ^ m := by rw [Nat.pow_mul]
theorem packs_take {l : List UInt8} {n x r : Nat} (h : packs l n x) (hr : r ≤ n) : packs (l.take r) r (x / 256 ^ (n - r)) := by
  obtain ⟨rfl, rfl⟩ := h
  refine ⟨by simp; omega, ?_⟩
  have h1 := packL_append (l.take r) (l.drop r)
  rw [List.take_append_drop] at h1
  have h2 := packL_lt (l.drop r)
  rw [List.length_drop] at h1 h2
  rw [h1, Nat.mul_comm, Nat.mul_add_div (Nat.pow_pos (by omega)), Nat.div_eq_of_lt h2]; rfl
theorem packs_drop {l : List UInt8} {n x r : Nat} (h : packs l n x) (hr : r ≤ n) : packs (l.drop r) (n - r) (x % 256 ^ (n - r)) := by
  obtain ⟨rfl, rfl⟩ := h
  refine ⟨by simp, ?_⟩
  have h1 := packL_append (l.take r) (l.drop r)
  rw [List.take_append_drop] at h1
  have h2 := packL_lt (l.drop r)
  rw [List.length_drop] at h1 h2
  rw [h1, Nat.mul_comm, Nat.mul_add_mod, Nat.mod_eq_of_lt h2]
theorem packs_cut {l : List UInt8} {n x a b : Nat} (h : packs l n x) (hab : a ≤ b) (hb : b ≤ n) : packs ((l.take b).drop a) (b - a) (cutB n x a b) := by
  have h1 := packs_drop (packs_take h hb) (r := a) hab
  refine ⟨h1.1, ?_⟩
  rw [h1.2]; unfold cutB
  rw [Nat.shiftRight_eq_div_pow, pow256, pow256]
theorem byteAt_eq {l : List UInt8} {n x i : Nat} (h : packs l n x) (hi : i < n) : byteAt n x i = (l[i]'(by rw [h.1]; exact hi)).toNat := by
  have h1 := packs_cut h (a := i) (b := i + 1) (by omega) (by omega)
  have h2 : (l.take (i + 1)).drop i = [l[i]'(by rw [h.1]; exact hi)] := by
    have hl := h.1
    rw [List.drop_take, show i + 1 - i = 1 by omega, List.drop_eq_getElem_cons (by omega)]
    rfl
  rw [h2] at h1
  have h3 := h1.2
  unfold cutB at h3
  unfold byteAt
  have e1 : n - 1 - i = n - (i + 1) := by omega
  have e2 : i + 1 - i = 1 := by omega
  rw [e2] at h3
  rw [e1, ← show (2 ^ (8 * 1)) = 256 from rfl, ← h3]
  simp [packL]
theorem byteAt_lt (n x i : Nat) : byteAt n x i < 256 := Nat.mod_lt _ (by omega)
theorem packs_one {c : Nat} (h : c < 256) : packs [UInt8.ofNat c] 1 c := by
  refine ⟨rfl, ?_⟩
  simp [packL]; omega
theorem packs_lay {l m : List UInt8} {n x off k y : Nat} (h : packs l n x) (hm : packs m k y) (ho : off + k ≤ n) :
    packs (l.take off ++ m ++ l.drop (off + k)) n (layB n x off k y) := by
  have hl := h.1
  have h1 := packs_cut h (a := 0) (b := off) (by omega) (by omega)
  have h2 := packs_cut h (a := off + k) (b := n) (by omega) (by omega)
  have h3 := packs_cat (packs_cat h1 hm) h2
  have e1 : off - 0 + k + (n - (off + k)) = n := by omega
  have e2 : n - (off + k) = n - off - k := by omega
  rw [e1] at h3
  simp only [List.drop_zero] at h3
  rw [List.take_of_length_le (by omega : l.length ≤ n)] at h3
  unfold layB
  rw [← e2]
  exact h3
theorem packs_inj {l m : List UInt8} {n x : Nat} (h1 : packs l n x) (h2 : packs m n x) : l = m := by
  apply List.ext_getElem
  · rw [h1.1, h2.1]
  · intro i hi hj
    have hi' : i < n := by rw [← h1.1]; exact hi
    have e1 := byteAt_eq h1 hi'
    have e2 := byteAt_eq h2 hi'
    exact UInt8.toNat_inj.1 (by rw [← e1, ← e2])
theorem packs_eq {l m : List UInt8} {n x k y : Nat} (h1 : packs l n x) (h2 : packs m k y) : (l = m) ↔ (n = k ∧ x = y) := by
  constructor
  · rintro rfl; exact ⟨h1.1.symm.trans h2.1, h1.2.symm.trans h2.2⟩
  · rintro ⟨rfl, rfl⟩; exact packs_inj h1 h2
theorem packs_zero (n : Nat) : packs (List.replicate n 0) n 0 := by
  refine ⟨by simp, ?_⟩
  induction n with
  | zero => rfl
  | succ n ih => simp [List.replicate_succ, packL, ih]
theorem bytesLess_iff : ∀ (a b : List UInt8), Op.bytesLess a b = true ↔
    packL a 0 * 256 ^ (max a.length b.length - a.length) < packL b 0 * 256 ^ (max a.length b.length - b.length) ∨
    (packL a 0 * 256 ^ (max a.length b.length - a.length) = packL b 0 * 256 ^ (max a.length b.length - b.length) ∧ a.length < b.length)
  | a, [] => by
    simp only [Op.bytesLess, Bool.false_eq_true, false_iff]
    simp [packL]
  | [], b :: l => by
    simp only [Op.bytesLess, true_iff]
    simp only [packL, List.length_nil, Nat.zero_mul, List.length_cons]
    rcases Nat.eq_zero_or_pos (packL l (0 * 256 + b.toNat) * 256 ^ (max 0 (l.length + 1) - (l.length + 1))) with h | h
    · right; exact ⟨by simpa using h.symm, by omega⟩
    · left; simpa using h
  | a :: l, b :: m => by
    have ih := bytesLess_iff l m
    have hl := packL_lt l
    have hm := packL_lt m
    simp only [Op.bytesLess, List.length_cons]
    have ea : packL (a :: l) 0 = a.toNat * 256 ^ l.length + packL l 0 := by simp only [packL]; rw [packL_acc]; simp
    have eb : packL (b :: m) 0 = b.toNat * 256 ^ m.length + packL m 0 := by simp only [packL]; rw [packL_acc]; simp
    rw [ea, eb]
    have emax : max (l.length + 1) (m.length + 1) = max l.length m.length + 1 := by omega
    rw [emax]
    have e1 : max l.length m.length + 1 - (l.length + 1) = max l.length m.length - l.length := by omega
    have e2 : max l.length m.length + 1 - (m.length + 1) = max l.length m.length - m.length := by omega
    rw [e1, e2]
    generalize hM : max l.length m.length = M at *
    have pA : 256 ^ l.length * 256 ^ (M - l.length) = 256 ^ M := by rw [← Nat.pow_add]; congr 1; omega
    have pB : 256 ^ m.length * 256 ^ (M - m.length) = 256 ^ M := by rw [← Nat.pow_add]; congr 1; omega
    have hl2 : packL l 0 * 256 ^ (M - l.length) < 256 ^ M := by rw [← pA]; exact Nat.mul_lt_mul_of_pos_right hl (Nat.pow_pos (by omega))
    have hm2 : packL m 0 * 256 ^ (M - m.length) < 256 ^ M := by rw [← pB]; exact Nat.mul_lt_mul_of_pos_right hm (Nat.pow_pos (by omega))
    rw [Nat.add_mul, Nat.add_mul, Nat.mul_assoc, Nat.mul_assoc, pA, pB]
    generalize packL l 0 * 256 ^ (M - l.length) = p at *
    generalize packL m 0 * 256 ^ (M - m.length) = q at *
    generalize 256 ^ M = Z at *
    rcases Nat.lt_trichotomy a.toNat b.toNat with hab | hab | hab
    · have h1 : (a < b) = True := by simp [UInt8.lt_iff_toNat_lt, hab]
      have : (a.toNat + 1) * Z ≤ b.toNat * Z := Nat.mul_le_mul_right _ hab
      rw [Nat.add_mul] at this
      simp only [h1, decide_true, Bool.true_or, true_iff]
      left; omega
    · have h1 : a = b := UInt8.toNat_inj.1 hab
      subst h1
      have h2 : decide (a < a) = false := by simp
      rw [h2]
      simp only [Bool.false_or, beq_self_eq_true, Bool.true_and]
      rw [ih]
      constructor <;> (rintro (h | h) <;> first | (left; omega) | (right; omega))
    · have h1 : decide (a < b) = false := by simp [UInt8.lt_iff_toNat_lt]; omega
      have h2 : (a == b) = false := by
        rw [beq_eq_false_iff_ne]; intro h; rw [h] at hab; omega
      have : (b.toNat + 1) * Z ≤ a.toNat * Z := Nat.mul_le_mul_right _ hab
      rw [Nat.add_mul] at this
      rw [h1, h2]
      simp only [Bool.false_or, Bool.false_and, Bool.false_eq_true, false_iff]
      omega
theorem ltB_eq {a b : List UInt8} {n x m y : Nat} (ha : packs a n x) (hb : packs b m y) : ltB n x m y = Op.bytesLess a b := by
  have h := bytesLess_iff a b
  rw [ha.1, hb.1, ha.2, hb.2] at h
  unfold ltB
  rw [br_if, br_if]
  simp only [Nat.shiftLeft_eq, pow256]
  have e : Nat.max n m = max n m := rfl
  rw [e]
  rw [Bool.eq_iff_iff, h]
  by_cases h1 : x * 256 ^ (max n m - n) < y * 256 ^ (max n m - m)
  · simp [h1]
  · by_cases h2 : x * 256 ^ (max n m - n) = y * 256 ^ (max n m - m)
    · simp [h2, Nat.blt_eq]
    · simp [h1, h2, Nat.beq_eq, Nat.blt_eq]
end
end Go.VE
