/- The evaluator, part 9: definitions and their laws, over any program. No condition. -/
import Derived.Orders
import Derived.Test.YtidmnoafhdhhlaaGreatDoorVE8
set_option linter.all false
namespace Go.VE
noncomputable section
open Go
def Post (ρ : Mp) (h : H) (n : Nat) (w : World) (k : K) (rr : RR) (rv : Value) (w' : World) : Prop := ∃ v h' n' σ, k v h' n' = rr ∧ Goes ρ h n w σ h' n' w' ∧ rel σ v rv
def PostE (ρ : Mp) (h : H) (n : Nat) (w : World) (k : K) (rr : RR) (ex : Ending) (w' : World) : Prop := ∃ rv, ex = .returned rv ∧ Post ρ h n w k rr rv w'
def Callable (P : Program) (f : Nat) : Prop := ∃ fn, P.funcs[f]? = some fn ∧ (fn.name == "runtime.NumGoroutine") = false ∧ fn.body.isNone = false
def CallLaw (P : Program) (f : Nat) (args : List AV) (h : H) (n : Nat) (k : K) (rr : RR) : Prop :=
  (Callable P f ∧ ∀ (ρ : Mp) (w : World) (as : List Value), Inv ρ h n w → relS ρ args as → Calls P f as.toArray w (PostE ρ h n w k rr)) ∨
  (∀ (ρ : Mp) (w : World) (as : List Value), Inv ρ h n w → relS ρ args as → ∃ rv w', (callFunc f as.toArray).run P w = .ok (.value rv) w' ∧ Post ρ h n w k rr rv w')
def CallOk (P : Program) (call : CallT) : Prop := ∀ (f : Nat) (args : List AV) (h : H) (n : Nat) (k : K) (rr : RR), call f args h n k = rr → rr ≠ .fail → CallLaw P f args h n k rr
def Fits (ρ : Mp) (ds : List (Option Nat)) (ls : List AV) (e : Env) (a : Act) (x : Operand) : Prop := ∀ s, lowS ds x = some s → rel ρ (s ls e) (a.eval x)
def After (ρ : Mp) (h : H) (n : Nat) (w : World) (k : K) (rr : RR) (a : Act) (dst : Option Tmp) (a' : Act) (w' : World) : Prop := ∃ rv, a' = a.put dst rv ∧ Post ρ h n w k rr rv w'
def OpOk (P : Program) (tb : Tb) (o : Oper) : Prop := ∀ (ds : List (Option Nat)) (ls : List AV) (e : Env) (a : Act) (ρ : Mp) (h : H) (n : Nat) (w : World) (call : CallT) (k : K) (rr : RR) (Q : Exit → Act → World → Prop),
  CallOk P call → (∀ x, x ∈ o.op.operands → Fits ρ ds ls e a x) → Inv ρ h n w → lowOp ds tb o.op call ls e h n k = rr → rr ≠ .fail → o.wp P a w (After ρ h n w k rr a o.dst) Q
def FloatOk (P : Program) (tb : Tb) (o : Oper) : Prop := ∀ (ds : List (Option Nat)) (ls : List AV) (e : Env) (a : Act) (ρ : Mp) (n : Nat) (w : World) (call : CallT) (h : H) (v : AV) (h' : H) (n' : Nat),
  (∀ x, x ∈ o.op.operands → Fits ρ ds ls e a x) → lowOp ds tb o.op call ls e h n finK = .fin v h' n' →
  ∃ ao o_ y rv, n < top ∧ h' = setO h n ao ∧ n' = n + 1 ∧ relO ρ y ao (some o_) 0 ∧ (∀ σ : Mp, σ n = some (w.heap.size, 0) → σ.g n = y → rel σ v rv) ∧ (execOp a.eval o).run P w = .ok (.value rv) (w.alloc o_)
def OpLaw (P : Program) (tb : Tb) (o : Oper) : Prop := OpOk P tb o ∧ (fltKind tb o.op = true → FloatOk P tb o)
theorem nthL_eq {α : Type} : ∀ (n : Nat) (l : List α), nthL n l = l[n]?
  | _, [] => by simp [nthL]
  | 0, _ :: _ => by simp [nthL]
  | n + 1, _ :: l => by simp [nthL, nthL_eq n l]
theorem nthD_eq : ∀ (n : Nat) (l : List AV), nthD n l = (l[n]?).getD .undef := by
  intro n l
  induction l generalizing n with
  | nil => cases n <;> rfl
  | cons a l ih => cases n with
    | zero => rfl
    | succ n => rw [List.getElem?_cons_succ, ← ih n]; rfl
theorem posOf_succ (t : Nat) : ∀ (ds : List (Option Nat)) (k : Nat), posOf t ds (k + 1) = (posOf t ds k).map (· + 1)
  | [], _ => rfl
  | some d :: l, k => by
    simp only [posOf]
    cases Nat.beq d t
    · simpa using posOf_succ t l (k + 1)
    · rfl
  | none :: l, k => by simp only [posOf]; exact posOf_succ t l (k + 1)
def FitL (ρ : Mp) (ds : List (Option Nat)) (ls : List AV) (a : Act) : Prop := ∀ t p, posOf t ds 0 = some p → rel ρ (nthD p ls) (a.tmps.getD t undef)
structure FitE (nt : Nat) (g : List Nat) (ρ : Mp) (e : Env) (a : Act) : Prop where
  slot : ∀ t, memN t g = true → rel ρ (orU (e.get (t + 1))) (a.tmps.getD t undef)
  size : nt ≤ a.tmps.size
  st : ∀ i, i < KG → ρ i = some (i, 0)
theorem FitL.mono {ρ σ : Mp} (h : ρ.le σ) {ds : List (Option Nat)} {ls : List AV} {a : Act} (hf : FitL ρ ds ls a) : FitL σ ds ls a := fun t p ht => rel_mono h _ _ (hf t p ht)
theorem FitE.mono {ρ σ : Mp} (h : ρ.le σ) {nt : Nat} {g : List Nat} {e : Env} {a : Act} (hf : FitE nt g ρ e a) : FitE nt g σ e a := ⟨fun t ht => rel_mono h _ _ (hf.slot t ht), hf.size, fun i hi => h.at_ _ _ (hf.st i hi)⟩
theorem FitL.nil (ρ : Mp) (a : Act) : FitL ρ [] [] a := fun _ _ h => by cases h
theorem put_get {a : Act} {dst : Option Tmp} {v : Value} {t : Nat} (h : ∀ d, dst = some d → d < a.tmps.size) : (a.put dst v).tmps.getD t undef = if dst = some t then v else a.tmps.getD t undef := by
  cases dst with
  | none => simp [Act.put]
  | some d =>
    have hd := h d rfl
    by_cases e : d = t
    · subst e
      simp [Act.put, hd]
    · have hne : ¬ (some d = some t) := fun h => e (Option.some.inj h)
      rw [if_neg hne]
      simp only [Act.put, Array.getD_eq_getD_getElem?, Array.getElem?_setIfInBounds_ne e]
theorem put_size {a : Act} {dst : Option Tmp} {v : Value} : (a.put dst v).tmps.size = a.tmps.size := by cases dst <;> simp [Act.put]
theorem FitL.put {ρ σ : Mp} (h : ρ.le σ) {ds : List (Option Nat)} {ls : List AV} {a : Act} {dst : Option Nat} {v : AV} {rv : Value} (hf : FitL ρ ds ls a) (hd : ∀ d, dst = some d → d < a.tmps.size) (hv : rel σ v rv) :
    FitL σ (dst :: ds) (v :: ls) (a.put dst rv) := by
  intro t p ht
  rw [put_get hd]
  cases dst with
  | none =>
    simp only [posOf] at ht
    rw [posOf_succ] at ht
    cases hp : posOf t ds 0 with
    | none => rw [hp] at ht; cases ht
    | some q =>
      rw [hp] at ht; cases ht
      rw [if_neg (by simp)]
      exact rel_mono h _ _ (hf t q hp)
  | some d =>
    simp only [posOf] at ht
    by_cases e : d = t
    · subst e
      rw [Nat.beq_refl] at ht; cases ht
      rw [if_pos rfl]
      exact hv
    · have : Nat.beq d t = false := by
        cases hb : Nat.beq d t
        · rfl
        · exact absurd (Nat.eq_of_beq_eq_true hb) e
      rw [this, cond_false, posOf_succ] at ht
      cases hp : posOf t ds 0 with
      | none => rw [hp] at ht; cases ht
      | some q =>
        rw [hp] at ht; cases ht
        rw [if_neg (fun h => e (Option.some.inj h))]
        exact rel_mono h _ _ (hf t q hp)
end
end Go.VE
namespace Go.VE
noncomputable section
open Go
structure TbOk (P : Program) (tb : Tb) : Prop where
  info : ∀ t i, tb.types.get (t + 1) = some i → P.info? t = some i
  list : ∀ t, tb.list[t]? = tb.types.get (t + 1)
  prom : ∀ t m f, (t, m, f) ∈ tb.prom → ∀ (h : Value) (w : World), (method (P.types.size + Made.depth) t (.agg #[h]) m).run P w = .ok (f, h) w
  eqf : ∀ t, tb.eqf t = true → P.stoodInHeld t = false ∧ P.eqGuardType P.depth t = false
theorem TbOk.und {P : Program} {tb : Tb} (h : TbOk P tb) {t : TypeId} {d : TypeDesc} (hu : und tb t = d) (hd : d ≠ .invalid) : P.underlying t = some d ∧ ∃ i, tb.types.get (t + 1) = some i ∧ P.info? t = some i := by
  unfold Go.VE.und at hu
  cases hg : tb.types.get (t + 1) with
  | none => rw [hg] at hu; exact absurd hu.symm hd
  | some i =>
    rw [hg] at hu
    have hi := h.info t i hg
    refine ⟨?_, i, rfl, hi⟩
    simp only [undOf] at hu
    unfold Program.underlying
    rw [hi]
    obtain ⟨desc, _⟩ := i
    cases desc <;> simp only at hu ⊢ <;> first | rw [hu] | skip
    rename_i nm u
    cases hj : tb.types.get (u + 1) with
    | none => rw [hj] at hu; exact absurd hu.symm hd
    | some j => rw [hj] at hu; simp only at hu; rw [h.info u j hj, Option.map_some, hu]
theorem ofL_get {α : Type} : ∀ (l : List α) (k : Nat) (t : T α) (j : Nat), 1 ≤ k → 1 ≤ j → k + l.length < 2 ^ 64 → (T.ofL l k t).get j = if k ≤ j ∧ j < k + l.length then l[j - k]? else t.get j
  | [], k, t, j, _, _, _ => by simp only [T.ofL, List.length_nil]; rw [if_neg (by omega)]
  | a :: l, k, t, j, hk, hj, hl => by
    simp only [List.length_cons] at hl ⊢
    simp only [T.ofL]
    rw [ofL_get l (k + 1) _ j (by omega) hj (by omega), T.get_put _ _ _ _ hk hj (by omega)]
    by_cases h1 : k + 1 ≤ j ∧ j < k + 1 + l.length
    · rw [if_pos h1, if_pos (by omega), show j - k = (j - (k + 1)) + 1 by omega, List.getElem?_cons_succ]
    · rw [if_neg h1]
      by_cases h2 : j = k
      · subst h2; rw [if_pos rfl, if_pos (by omega), Nat.sub_self]; rfl
      · rw [if_neg h2, if_neg (by omega)]
theorem ofL_get1 {α : Type} {l : List α} (hl : l.length < 2 ^ 63) (j : Nat) : (T.ofL l 1 .nil).get (j + 1) = l[j]? := by
  rw [ofL_get l 1 .nil (j + 1) (by omega) (by omega) (by omega)]
  by_cases h : j < l.length
  · rw [if_pos (by omega)]; simp
  · rw [if_neg (by omega), List.getElem?_eq_none (by omega)]
    rfl
theorem tbP_ok (P : Program) (hs : P.types.size < 2 ^ 63) {prom : List (Nat × String × Nat)} (hp : ∀ t m f, (t, m, f) ∈ prom → ∀ (h : Value) (w : World), (method (P.types.size + Made.depth) t (.agg #[h]) m).run P w = .ok (f, h) w) : TbOk P (tbP P prom) := by
  refine ⟨fun t i h => ?_, fun t => ?_, hp, fun t h => ?_⟩
  · have h' : (T.ofL P.types.toList 1 .nil).get (t + 1) = some i := h
    rw [ofL_get1 (by simpa using hs), Array.getElem?_toList] at h'
    have hlt : t < P.types.size := (Array.getElem?_eq_some_iff.1 h').1
    show Tables.info? _ t = some i
    unfold Tables.info?
    rw [if_pos hlt]; exact h'
  · show P.types.toList[t]? = (T.ofL P.types.toList 1 .nil).get (t + 1)
    rw [ofL_get1 (by simpa using hs)]
  · have h' : (!P.stoodInHeld t && !P.eqGuardType P.depth t) = true := h
    simpa using h'
theorem tbOf_ok (P : Program) (hs : P.types.size < 2 ^ 63) : TbOk P (tbOf P) := tbP_ok P hs (prom := []) fun _ _ _ h => by cases h
end
end Go.VE
namespace Go.VE
noncomputable section
open Go
mutual
theorem lowV_rel (ρ : Mp) : ∀ (v : Value) (a : AV), lowV v = some a → rel ρ a v
  | .bool b, a, h => by simp only [lowV] at h; cases h; simp only [rel]
  | .int k n, a, h => by
    simp only [lowV] at h
    obtain ⟨h1, h2⟩ := br_some h
    cases h2
    simp only [inI, Bool.and_eq_true, decide_eq_true_eq] at h1
    simp only [rel]
    exact ⟨k, n, rfl, rfl, rfl, h1.1, h1.2⟩
  | .string s, a, h => by
    simp only [lowV] at h; cases h
    simp only [rel]
    exact ⟨s, rfl, Array.length_toList, rfl⟩
  | .pointer none, a, h => by simp only [lowV] at h; cases h; simp only [rel]
  | .slice none 0 0, a, h => by simp only [lowV] at h; cases h; simp only [rel]
  | .map none, a, h => by simp only [lowV] at h; cases h; simp only [rel]
  | .nilFunc, a, h => by simp only [lowV] at h; cases h; simp only [rel]
  | .nilIface, a, h => by simp only [lowV] at h; cases h; simp only [rel]
  | .agg ⟨l⟩, a, h => by
    simp only [lowV] at h
    cases hl : lowVs l with
    | none => rw [hl] at h; cases h
    | some m =>
      rw [hl] at h
      obtain ⟨h1, h2⟩ := br_some h
      cases h2
      simp only [rel]
      exact ⟨⟨l⟩, rfl, lowVs_rel ρ l m hl, h1⟩
  | .tuple ⟨l⟩, a, h => by
    simp only [lowV] at h
    cases hl : lowVs l with
    | none => rw [hl] at h; cases h
    | some m =>
      rw [hl] at h; cases h
      simp only [rel]
      exact ⟨⟨l⟩, rfl, lowVs_rel ρ l m hl⟩
  | .iface t v, a, h => by
    simp only [lowV] at h
    cases hv : lowV v with
    | none => rw [hv] at h; cases h
    | some m =>
      rw [hv] at h; cases h
      simp only [rel]
      exact ⟨v, rfl, lowV_rel ρ v m hv⟩
  | .float .., _, h | .complex .., _, h | .chan .., _, h | .pointer (some _), _, h | .slice (some _) _ _, _, h | .slice none (_ + 1) _, _, h | .slice none 0 (_ + 1), _, h
  | .map (some _), _, h | .func .., _, h => by simp [lowV] at h
theorem lowVs_rel (ρ : Mp) : ∀ (l : List Value) (a : AV), lowVs l = some a → relL ρ a l
  | [], a, h => by simp only [lowVs] at h; cases h; simp only [relL]
  | v :: l, a, h => by
    simp only [lowVs] at h
    cases hv : lowV v with
    | none => rw [hv] at h; cases h
    | some m =>
      cases hl : lowVs l with
      | none => rw [hv, hl] at h; cases h
      | some k =>
        rw [hv, hl] at h; cases h
        simp only [relL]
        exact ⟨v, l, rfl, lowV_rel ρ v m hv, lowVs_rel ρ l k hl⟩
end
theorem global_fits {ρ : Mp} {ds : List (Option Nat)} {ls : List AV} {e : Env} {a : Act} (hst : ∀ i, i < KG → ρ i = some (i, 0)) {j : Nat} {s : Sx} (hs : lowS ds (.global j) = some s) : rel ρ (s ls e) (a.eval (.global j)) := by
  simp only [lowS] at hs
  cases hb : Nat.blt j KG with
  | false => rw [hb] at hs; cases hs
  | true =>
    rw [hb] at hs; cases hs
    rw [Nat.blt_eq] at hb
    show rel ρ (.ptr j 0) (.pointer (some ⟨j, 0, none⟩))
    simp only [rel]
    exact ⟨j, 0, hst j hb, rfl⟩
def Kept (g : List Nat) (ds : List (Option Nat)) : Operand → Prop
  | .tmp t => posOf t ds 0 = none → memN t g = true
  | _ => True
theorem fits_of {ρ : Mp} {nt : Nat} {g : List Nat} {ds : List (Option Nat)} {ls : List AV} {e : Env} {a : Act} (hl : FitL ρ ds ls a) (he : FitE nt g ρ e a) {x : Operand} (hk : Kept g ds x) : Fits ρ ds ls e a x := by
  intro s hs
  cases x with
  | tmp t =>
    simp only [lowS] at hs; cases hs
    unfold lowT
    cases hp : posOf t ds 0 with
    | some p => exact hl t p hp
    | none => exact he.slot t (hk hp)
  | const v =>
    simp only [lowS] at hs
    cases hv : lowV v with
    | none => rw [hv] at hs; cases hs
    | some b => rw [hv] at hs; cases hs; exact lowV_rel ρ v b hv
  | global j => exact global_fits he.st hs
  | func f =>
    cases hs
    show rel ρ (.func f .nl) (.func (.func f) #[] #[])
    simp only [rel]
    exact ⟨#[], rfl, by simp only [relL]⟩
theorem memN_iff {n : Nat} : ∀ {l : List Nat}, memN n l = true ↔ n ∈ l
  | [] => by simp [memN]
  | a :: l => by
    unfold memN
    by_cases h : n = a
    · subst h; rw [Nat.beq_refl, br_true]; simp
    · have hb : Nat.beq n a = false := by
        cases hb : Nat.beq n a
        · rfl
        · exact absurd (Nat.eq_of_beq_eq_true hb) h
      rw [hb, br_false, memN_iff (l := l)]
      simp [h]
def Sub (a b : List Nat) : Prop := ∀ t, memN t a = true → memN t b = true
theorem Sub.refl (a : List Nat) : Sub a a := fun _ h => h
theorem Sub.trans {a b c : List Nat} (h : Sub a b) (h' : Sub b c) : Sub a c := fun t ht => h' t (h t ht)
theorem addN_sub (n : Nat) (l : List Nat) : Sub l (addN n l) := fun t ht => by
  unfold addN
  cases memN n l
  · rw [cond_false, memN_iff]; exact List.mem_cons_of_mem _ (memN_iff.1 ht)
  · exact ht
theorem addN_mem (n : Nat) (l : List Nat) : memN n (addN n l) = true := by
  unfold addN
  cases h : memN n l
  · rw [cond_false, memN_iff]; exact List.mem_cons_self
  · exact h
theorem readsS_sub (ds : List (Option Nat)) (x : Operand) (l : List Nat) : Sub l (readsS ds x l) := by
  cases x <;> simp only [readsS] <;> try exact Sub.refl _
  split
  · exact Sub.refl _
  · exact addN_sub _ _
theorem readsS_kept {ds : List (Option Nat)} {x : Operand} {l g : List Nat} (h : Sub (readsS ds x l) g) : Kept g ds x := by
  cases x <;> try exact trivial
  intro hp
  simp only [readsS, hp] at h
  exact h _ (addN_mem _ _)
theorem readsL_sub (ds : List (Option Nat)) : ∀ (xs : List Operand) (l : List Nat), Sub l (readsL ds xs l)
  | [], _ => Sub.refl _
  | x :: xs, l => (readsS_sub ds x l).trans (readsL_sub ds xs _)
theorem readsL_kept {ds : List (Option Nat)} {g : List Nat} : ∀ {xs : List Operand} {l : List Nat}, Sub (readsL ds xs l) g → ∀ x, x ∈ xs → Kept g ds x
  | [], _, _, x, hx => by cases hx
  | y :: ys, l, h, x, hx => by
    rcases List.mem_cons.1 hx with rfl | hx
    · exact readsS_kept ((readsL_sub ds ys _).trans h)
    · exact readsL_kept (xs := ys) h x hx
theorem readsOps_sub : ∀ (ds : List (Option Nat)) (ops : List Oper) (l : List Nat), Sub l (readsOps ds ops l)
  | _, [], _ => Sub.refl _
  | ds, o :: ops, l => (readsL_sub ds _ l).trans (readsOps_sub _ ops _)
theorem readsC_sub : ∀ (c : Code) (l : List Nat), Sub l (readsC c l)
  | .region _ ops _, l => readsOps_sub [] ops.toList l
  | .seq a b, l => (readsC_sub a l).trans (readsC_sub b _)
  | .cond c a b, l => ((readsS_sub [] c l).trans (readsC_sub a _)).trans (readsC_sub b _)
  | .block _ b, l => readsC_sub b l
  | .loop b, l => readsC_sub b l
  | .rangeFunc f _ a b, l => ((readsS_sub [] f l).trans (readsC_sub a _)).trans (readsC_sub b _)
  | .scope b, l => readsC_sub b l
  | .skip, l | .exit _, l | .label _, l | .goto _, l | .ret, l | .refuse _, l => Sub.refl _
end
end Go.VE
