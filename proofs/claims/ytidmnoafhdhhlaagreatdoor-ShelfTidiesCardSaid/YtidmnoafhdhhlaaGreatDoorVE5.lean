/- The evaluator, part 5: definitions and their laws, over any program. No condition. -/
import Derived.Laws.StructEq
import Derived.Test.YtidmnoafhdhhlaaGreatDoorVE4
set_option linter.all false
namespace Go.VE
noncomputable section
open Go
section
variable {P : Program}
def EqOk (P : Program) (t : TypeId) (f : AV → AV → Option Bool) : Prop :=
  ∀ (ρ : Mp) (w : World) (x y : Operand) (a b : AV) (ra rb : Value) (c : Bool), f a b = some c → rel ρ a ra → rel ρ b rb →
    (do eqGuard .eql t x y ra rb; binOp .eql t ra rb : Sem Value).run P w = .ok (.bool c) w ∧ (do eqGuard .neq t x y ra rb; binOp .neq t ra rb : Sem Value).run P w = .ok (.bool (!c)) w
theorem eqOk_int {t : TypeId} {kd : IntKind} : EqOk P t (eqI (kindN kd)) := by
  intro ρ w x y a b ra rb c hb hx hy
  unfold eqI at hb
  split at hb
  · rename_i i a j b
    obtain ⟨h1, hb1⟩ := br_some hb
    obtain ⟨h2, hb2⟩ := br_some hb1
    rw [Nat.beq_eq] at h1 h2; subst h1; subst h2
    obtain ⟨p, rfl, e1, hp⟩ := int_inv hx
    obtain ⟨q, rfl, e2, hq⟩ := int_inv hy
    have hc : c = (p == q) := by
      injection hb2 with hb3
      rw [← hb3, Bool.eq_iff_iff, Nat.beq_eq, beq_iff_eq, e1, e2]
      exact ⟨fun e => enc_inj hp hq e, fun e => by rw [e]⟩
    subst hc
    constructor <;> simp [eqGuard, binOp, Op.intCmp, bne]
  · cases hb
theorem eqOk_str {t : TypeId} : EqOk P t eqS := by
  intro ρ w x y a b ra rb c hb hx hy
  unfold eqS at hb
  split at hb
  · rename_i n x' m y'
    simp only [rel] at hx hy
    obtain ⟨s, rfl, hs⟩ := hx
    obtain ⟨u, rfl, hu'⟩ := hy
    have hc : c = (s.data.toList == u.data.toList) := by
      injection hb with hb
      rw [← hb, Bool.eq_iff_iff, beq_iff_eq, packs_eq hs hu', br_if]
      split
      · rename_i e; rw [Nat.beq_eq] at e; simp [e]
      · rename_i e; rw [Nat.beq_eq] at e; simp [e]
    subst hc
    constructor <;> simp [eqGuard, binOp, Op.stringOp, ByteArray.toList_eq]
  · cases hb
theorem equal_succ {t : TypeId} {x y : Value} {r : Sem Bool} (h : ∀ d, Op.equalIn (d + 1) t x y = r) : Op.equal t x y = r := h 9999
theorem eq_of_equal {t : TypeId} {x y : Operand} {a b : Value} {c : Bool} {w : World} (hg : ∀ op, (eqGuard op t x y a b).run P w = .ok () w) (he : ∀ d, (Op.equalIn (d + 1) t a b).run P w = .ok c w)
    (h1 : binOp .eql t a b = (do pure (.bool (← Op.equal t a b)))) (h2 : binOp .neq t a b = (do pure (.bool (!(← Op.equal t a b))))) :
    (do eqGuard .eql t x y a b; binOp .eql t a b : Sem Value).run P w = .ok (.bool c) w ∧ (do eqGuard .neq t x y a b; binOp .neq t a b : Sem Value).run P w = .ok (.bool (!c)) w := by
  have he' : (Op.equal t a b).run P w = .ok c w := he 9999
  rw [h1, h2]
  constructor <;> simp only [Sem.run_bind, hg, Result.andThen_ok, he', Sem.run_pure]
theorem eqOk_bool {t : TypeId} (hu : P.underlying t = some .bool) : EqOk P t eqB := by
  intro ρ w x y a b ra rb c hb hx hy
  unfold eqB at hb
  split at hb
  · rename_i a b
    rw [bool_inv hx, bool_inv hy]
    refine eq_of_equal (fun op => by unfold eqGuard; cases op <;> rfl) (fun d => ?_) rfl rfl
    rw [run_equalIn_bool' _ _ _ _ _ hu]
    injection hb with hb
    rw [← hb]
    cases a <;> cases b <;> rfl
  · cases hb
theorem eqIn_und {d : Nat} {t : TypeId} {x y : Value} {u : TypeDesc} {r : Sem Bool} {w : World} {c : Bool} (hu : P.underlying t = some u)
    (h : (Op.equalIn (d + 1) t x y) = (do match ← underlying t, x, y with | _, _, _ => r)) (hr : r.run P w = .ok c w) : (Op.equalIn (d + 1) t x y).run P w = .ok c w := by
  rw [h]
  simp only [Sem.run_bind, run_und hu, Result.andThen_ok, hr]
theorem eqOk_ptr {t e : TypeId} (hu : P.underlying t = some (.pointer e)) : EqOk P t eqP := by
  intro ρ w x y a b ra rb c hb hx hy
  unfold eqP at hb
  split at hb <;> first | (injection hb with hb; subst hb) | cases hb
  all_goals
    simp only [rel] at hx hy
  · subst hx; subst hy
    exact eq_of_equal (fun op => by unfold eqGuard; cases op <;> rfl) (fun d => by unfold Op.equalIn; simp [run_und hu]) rfl rfl
  · subst hx; obtain ⟨r, o, _, rfl⟩ := hy
    exact eq_of_equal (fun op => by unfold eqGuard; cases op <;> rfl) (fun d => by unfold Op.equalIn; simp [run_und hu]) rfl rfl
  · subst hy; obtain ⟨r, o, _, rfl⟩ := hx
    exact eq_of_equal (fun op => by unfold eqGuard; cases op <;> rfl) (fun d => by unfold Op.equalIn; simp [run_und hu]) rfl rfl
theorem eqOk_ptr2 {t e : TypeId} {i : TypeInfo} (hu : P.underlying t = some (.pointer e)) (hi : P.info? e = some i) (hz : i.size ≠ 0) : EqOk P t eqP2 := by
  intro ρ w x y a b ra rb c hb hx hy
  unfold eqP2 at hb
  split at hb
  · exact eqOk_ptr hu ρ w x y .nilp .nilp ra rb c hb hx hy
  · exact eqOk_ptr hu ρ w x y .nilp (.ptr _ _) ra rb c hb hx hy
  · exact eqOk_ptr hu ρ w x y (.ptr _ _) .nilp ra rb c hb hx hy
  · rename_i a x' b y'
    rw [br_if] at hb
    split at hb
    · rename_i e0
      rw [Nat.beq_eq] at e0; subst e0
      injection hb with hb
      simp only [rel] at hx hy
      obtain ⟨r, o, h1, rfl⟩ := hx
      obtain ⟨r', o', h2, rfl⟩ := hy
      rw [h1] at h2; cases h2
      have hc : c = decide (x' = y') := by
        rw [← hb, Bool.eq_iff_iff, Nat.beq_eq, decide_eq_true_eq]
      refine eq_of_equal (fun op => by unfold eqGuard; cases op <;> rfl) (fun d => ?_) rfl rfl
      unfold Op.equalIn
      simp only [Sem.run_bind, run_und hu, Result.andThen_ok, run_size hi, ne_eq, hz, not_false_eq_true, if_true, sameAddr, beq_self_eq_true, Sem.run_pure]
      congr 1
      rw [hc, Bool.eq_iff_iff, beq_iff_eq, decide_eq_true_eq]
      constructor
      · intro h; injection h with _ h _; omega
      · intro h; rw [h]
    · cases hb
  · cases hb
theorem eqOk_sl {t e : TypeId} (hu : P.underlying t = some (.slice e)) : EqOk P t eqSl := by
  intro ρ w x y a b ra rb c hb hx hy
  unfold eqSl at hb
  split at hb <;> first | (injection hb with hb; subst hb) | cases hb
  all_goals
    simp only [rel] at hx hy
  · subst hx; subst hy
    exact eq_of_equal (fun op => by unfold eqGuard; cases op <;> rfl) (fun d => by unfold Op.equalIn; simp [run_und hu]) rfl rfl
  · subst hx; obtain ⟨r, o, f, c, _, rfl, _⟩ := hy
    exact eq_of_equal (fun op => by unfold eqGuard; cases op <;> rfl) (fun d => by unfold Op.equalIn; simp [run_und hu]) rfl rfl
  · subst hy; obtain ⟨r, o, f, c, _, rfl, _⟩ := hx
    exact eq_of_equal (fun op => by unfold eqGuard; cases op <;> rfl) (fun d => by unfold Op.equalIn; simp [run_und hu]) rfl rfl
theorem eqOk_map {t e e' : TypeId} (hu : P.underlying t = some (.map e e')) : EqOk P t eqM := by
  intro ρ w x y a b ra rb c hb hx hy
  unfold eqM at hb
  split at hb <;> first | (injection hb with hb; subst hb) | cases hb
  all_goals
    simp only [rel] at hx hy
  · subst hx; subst hy
    exact eq_of_equal (fun op => by unfold eqGuard; cases op <;> rfl) (fun d => by unfold Op.equalIn; simp [run_und hu]) rfl rfl
  · subst hx; obtain ⟨r, _, rfl⟩ := hy
    exact eq_of_equal (fun op => by unfold eqGuard; cases op <;> rfl) (fun d => by unfold Op.equalIn; simp [run_und hu]) rfl rfl
  · subst hy; obtain ⟨r, _, rfl⟩ := hx
    exact eq_of_equal (fun op => by unfold eqGuard; cases op <;> rfl) (fun d => by unfold Op.equalIn; simp [run_und hu]) rfl rfl
theorem eqOk_func {t : TypeId} {p q : Array TypeId} {v : Bool} (hu : P.underlying t = some (.func p q v)) : EqOk P t eqF := by
  intro ρ w x y a b ra rb c hb hx hy
  unfold eqF at hb
  split at hb <;> first | (injection hb with hb; subst hb) | cases hb
  all_goals
    simp only [rel] at hx hy
  · subst hx; subst hy
    exact eq_of_equal (fun op => by unfold eqGuard; cases op <;> rfl) (fun d => by unfold Op.equalIn; simp [run_und hu]) rfl rfl
  · subst hx; obtain ⟨cs, rfl, _⟩ := hy
    exact eq_of_equal (fun op => by unfold eqGuard; cases op <;> rfl) (fun d => by unfold Op.equalIn; simp [run_und hu]) rfl rfl
  · subst hy; obtain ⟨cs, rfl, _⟩ := hx
    exact eq_of_equal (fun op => by unfold eqGuard; cases op <;> rfl) (fun d => by unfold Op.equalIn; simp [run_und hu]) rfl rfl
theorem eqOk_if {t : TypeId} {ms : Array (String × TypeId)} (hu : P.underlying t = some (.interface ms)) : EqOk P t eqIf := by
  intro ρ w x y a b ra rb c hb hx hy
  unfold eqIf at hb
  split at hb <;> first | (injection hb with hb; subst hb) | skip
  all_goals
    try simp only [rel] at hx hy
  · subst hx; obtain ⟨v, rfl, _⟩ := hy
    exact eq_of_equal (fun op => by unfold eqGuard; cases op <;> rfl) (fun d => by unfold Op.equalIn; simp [run_und hu]) rfl rfl
  · subst hy; obtain ⟨v, rfl, _⟩ := hx
    exact eq_of_equal (fun op => by unfold eqGuard; cases op <;> rfl) (fun d => by unfold Op.equalIn; simp [run_und hu]) rfl rfl
  · rename_i s _ z _
    obtain ⟨v, rfl, _⟩ := hx
    obtain ⟨u, rfl, _⟩ := hy
    rw [br_if] at hb
    by_cases e : Nat.beq s z = true
    · rw [if_pos e] at hb; cases hb
    · rw [if_neg e] at hb; injection hb with hb; subst hb
      rw [Nat.beq_eq] at e
      exact eq_of_equal (fun op => by unfold eqGuard; cases op <;> rfl) (fun d => by unfold Op.equalIn; simp [run_und hu, e]) rfl rfl
  · cases hb
theorem eqNil_ok {t : TypeId} {ms : Array (String × TypeId)} (hu : P.underlying t = some (.interface ms)) {ρ : Mp} {w : World} {x : Operand} {a : AV} {ra : Value} {c : Bool} (hb : eqNil a = some c) (hx : rel ρ a ra) :
    (do eqGuard .eql t x (.const .nilIface) ra .nilIface; binOp .eql t ra .nilIface : Sem Value).run P w = .ok (.bool c) w ∧
    (do eqGuard .neq t x (.const .nilIface) ra .nilIface; binOp .neq t ra .nilIface : Sem Value).run P w = .ok (.bool (!c)) w := by
  unfold eqNil at hb
  split at hb <;> first | (injection hb with hb; subst hb) | cases hb
  all_goals
    simp only [rel] at hx
  · subst hx
    refine eq_of_equal (fun op => ?_) (fun d => by unfold Op.equalIn; simp [run_und hu]) rfl rfl
    unfold eqGuard; cases op <;> cases x <;> simp
  · obtain ⟨v, rfl, _⟩ := hx
    exact eq_of_equal (fun op => by unfold eqGuard; cases op <;> rfl) (fun d => by unfold Op.equalIn; simp [run_und hu]) rfl rfl
end
end
end Go.VE
namespace Go.VE
noncomputable section
open Go
section
variable {ρ : Mp}
theorem relL_nil {vs : List Value} : relL ρ .nl vs ↔ vs = [] := by simp only [relL]
theorem relL_cons {a l : AV} {vs : List Value} : relL ρ (.cons a l) vs ↔ ∃ v r, vs = v :: r ∧ rel ρ a v ∧ relL ρ l r := by simp only [relL]
inductive Chain : AV → Prop
  | nl : Chain .nl
  | cons (a l : AV) : Chain l → Chain (.cons a l)
theorem chain_of_relL : ∀ {l : AV} {vs : List Value}, relL ρ l vs → Chain l
  | .nl, _, _ => .nl
  | .cons a l, _, h => by
    obtain ⟨v, r, _, _, h3⟩ := relL_cons.1 h
    exact .cons a l (chain_of_relL h3)
  | .undef, _, h | .int _ _, _, h | .bool _, _, h | .ptr _ _, _, h | .sl _ _ _ _ _, _, h | .str _ _, _, h | .iface _ _, _, h | .nilp, _, h | .nils, _, h | .nili, _, h | .nilm, _, h | .nilf, _, h | .map _, _, h | .func _ _, _, h | .agg _, _, h | .tup _, _, h => by simp only [relL] at h
theorem relL_len {l : AV} (hc : Chain l) : ∀ {vs : List Value}, relL ρ l vs → lenC l = vs.length := by
  induction hc with
  | nl => intro vs h; rw [relL_nil.1 h]; rfl
  | cons a l _ ih =>
    intro vs h
    obtain ⟨v, r, rfl, _, h3⟩ := relL_cons.1 h
    simp [lenC, ih h3]
theorem relL_nth {l : AV} (hc : Chain l) : ∀ {vs : List Value} {i : Nat} {a : AV}, relL ρ l vs → nthC i l = some a → ∃ v, vs[i]? = some v ∧ rel ρ a v := by
  induction hc with
  | nl => intro vs i a _ h; cases i <;> cases h
  | cons b l _ ih =>
    intro vs i a h hn
    obtain ⟨v, r, rfl, h2, h3⟩ := relL_cons.1 h
    cases i with
    | zero => cases hn; exact ⟨v, rfl, h2⟩
    | succ i => simp only [nthC] at hn; obtain ⟨u, h4, h5⟩ := ih h3 hn; exact ⟨u, by simpa using h4, h5⟩
theorem relL_drop {l : AV} (hc : Chain l) : ∀ {vs : List Value} (i : Nat), relL ρ l vs → relL ρ (dropC i l) (vs.drop i) := by
  induction hc with
  | nl => intro vs i h; rw [relL_nil.1 h]; cases i <;> simp [dropC, relL]
  | cons b l _ ih =>
    intro vs i h
    cases i with
    | zero => exact h
    | succ i =>
      obtain ⟨v, r, rfl, h2, h3⟩ := relL_cons.1 h
      exact ih i h3
theorem relL_take {l : AV} (hc : Chain l) : ∀ {vs : List Value} (i : Nat), relL ρ l vs → relL ρ (takeC i l) (vs.take i) := by
  induction hc with
  | nl => intro vs i h; rw [relL_nil.1 h]; cases i <;> simp [takeC, relL]
  | cons b l _ ih =>
    intro vs i h
    obtain ⟨v, r, rfl, h2, h3⟩ := relL_cons.1 h
    cases i with
    | zero => simp [takeC, relL]
    | succ i => exact relL_cons.2 ⟨v, r.take i, rfl, h2, ih i h3⟩
theorem relL_cat {l : AV} (hc : Chain l) : ∀ {vs us : List Value} {m : AV}, relL ρ l vs → relL ρ m us → relL ρ (catC l m) (vs ++ us) := by
  induction hc with
  | nl => intro vs us m h h'; rw [relL_nil.1 h]; exact h'
  | cons b l _ ih =>
    intro vs us m h h'
    obtain ⟨v, r, rfl, h2, h3⟩ := relL_cons.1 h
    exact relL_cons.2 ⟨v, r ++ us, rfl, h2, ih h3 h'⟩
theorem okCs_cons {a l : AV} : okCs (.cons a l) = true ↔ okC a = true ∧ okCs l = true := by
  simp only [okCs, br_if]
  by_cases h : okC a = true <;> simp [h]
theorem okCs_drop {l : AV} (hc : Chain l) : ∀ (i : Nat), okCs l = true → okCs (dropC i l) = true := by
  induction hc with
  | nl => intro i _; cases i <;> rfl
  | cons b l _ ih => intro i h; cases i with
    | zero => exact h
    | succ i => exact ih i (okCs_cons.1 h).2
theorem okCs_take {l : AV} (hc : Chain l) : ∀ (i : Nat), okCs l = true → okCs (takeC i l) = true := by
  induction hc with
  | nl => intro i _; cases i <;> rfl
  | cons b l _ ih => intro i h; cases i with
    | zero => rfl
    | succ i => exact okCs_cons.2 ⟨(okCs_cons.1 h).1, ih i (okCs_cons.1 h).2⟩
theorem okCs_cat {l : AV} (hc : Chain l) : ∀ {m : AV}, okCs l = true → okCs m = true → okCs (catC l m) = true := by
  induction hc with
  | nl => intro m _ h; exact h
  | cons b l _ ih => intro m h h'; exact okCs_cons.2 ⟨(okCs_cons.1 h).1, ih (okCs_cons.1 h).2 h'⟩
theorem okCs_nth {l : AV} (hc : Chain l) : ∀ {i : Nat} {a : AV}, okCs l = true → nthC i l = some a → okC a = true := by
  induction hc with
  | nl => intro i a _ h; cases i <;> cases h
  | cons b l _ ih => intro i a h hn; cases i with
    | zero => cases hn; exact (okCs_cons.1 h).1
    | succ i => exact ih (okCs_cons.1 h).2 hn
theorem cellV_of {a : AV} {v : Value} (h : okC a = true) (hr : rel ρ a v) : cellV v := by
  cases a <;> first | (exact absurd (show false = true from h) (by decide)) | skip
  all_goals simp only [rel] at hr
  case int => obtain ⟨_, _, rfl, _⟩ := hr; trivial
  case ukn => obtain ⟨_, _, rfl, _⟩ := hr; trivial
  case bool => subst hr; trivial
  case ptr => obtain ⟨_, _, _, rfl⟩ := hr; trivial
  case sl => obtain ⟨_, _, _, _, _, rfl, _⟩ := hr; trivial
  case str => obtain ⟨_, rfl, _⟩ := hr; trivial
  case iface => obtain ⟨_, rfl, _⟩ := hr; trivial
  case nilp => subst hr; trivial
  case nils => subst hr; trivial
  case nili => subst hr; trivial
  case nilm => subst hr; trivial
  case nilf => subst hr; trivial
  case map => obtain ⟨_, _, rfl⟩ := hr; trivial
  case func => obtain ⟨_, rfl, _⟩ := hr; trivial
theorem cells_of {v : Value} (h : cellV v) : v.cells = #[v] := by cases v <;> first | rfl | exact h.elim
theorem rel_cells {a : AV} {v : Value} (h : okCs (cellsA a) = true) (hr : rel ρ a v) : relL ρ (cellsA a) v.cells.toList := by
  cases a with
  | agg l =>
    simp only [rel] at hr
    obtain ⟨cs, rfl, h1, _⟩ := hr
    exact h1
  | _ =>
    have h1 := (okCs_cons.1 h).1
    have h2 := cellV_of h1 hr
    rw [cells_of h2]
    exact relL_cons.2 ⟨v, [], rfl, hr, relL_nil.2 rfl⟩
theorem relL_cellV {l : AV} (hc : Chain l) : ∀ {vs : List Value}, okCs l = true → relL ρ l vs → ∀ v ∈ vs, cellV v := by
  induction hc with
  | nl => intro vs _ h; rw [relL_nil.1 h]; simp
  | cons a l _ ih =>
    intro vs h hr v hv
    obtain ⟨u, r, rfl, h2, h3⟩ := relL_cons.1 hr
    rcases List.mem_cons.1 hv with rfl | hv
    · exact cellV_of (okCs_cons.1 h).1 h2
    · exact ih (okCs_cons.1 h).2 h3 v hv
theorem chain_take {l : AV} (hc : Chain l) : ∀ i, Chain (takeC i l) := by
  induction hc with
  | nl => intro i; cases i <;> exact .nl
  | cons a l _ ih => intro i; cases i with
    | zero => exact .nl
    | succ i => exact .cons _ _ (ih i)
theorem chain_drop {l : AV} (hc : Chain l) : ∀ i, Chain (dropC i l) := by
  induction hc with
  | nl => intro i; cases i <;> exact .nl
  | cons a l h ih => intro i; cases i with
    | zero => exact .cons a l h
    | succ i => exact ih i
theorem listT_at {l : AV} (hc : Chain l) : ∀ {i : Nat} {t : T AV} (j : Nat), i + lenC l ≤ top →
    (i ≤ j → j < i + lenC l → nthC (j - i) l = some (cellAt (listT l i t) j)) ∧ (¬ (i ≤ j ∧ j < i + lenC l) → cellAt (listT l i t) j = cellAt t j) := by
  induction hc with
  | nl => intro i t j _; exact ⟨fun h1 h2 => by simp [lenC] at h2; omega, fun _ => rfl⟩
  | cons a l hc ih =>
    intro i t j hi
    simp only [lenC] at hi ⊢
    have h := ih (i := i + 1) (t := t.put (some a) (i + 1)) j (by omega)
    simp only [listT]
    constructor
    · intro h1 h2
      by_cases hj : j = i
      · subst hj
        rw [h.2 (by omega), cellAt_put (by omega)]
        simp [nthC]
      · have := h.1 (by omega) (by omega)
        rw [← this]
        have e : j - i = (j - (i + 1)) + 1 := by omega
        rw [e]; rfl
    · intro h1
      rw [h.2 (by omega), cellAt_put (by omega), if_neg (by omega)]
theorem cellsFrom_chain (t : T AV) : ∀ (n i : Nat), Chain (cellsFrom t i n) ∧ lenC (cellsFrom t i n) = n
  | 0, i => ⟨.nl, rfl⟩
  | n + 1, i => ⟨.cons _ _ (cellsFrom_chain t n (i + 1)).1, by simp [cellsFrom, lenC, (cellsFrom_chain t n (i + 1)).2]⟩
theorem cellsFrom_rel {t : T AV} {c : Array Value} : ∀ (n i o : Nat), o + n ≤ c.size → (∀ j, j < n → ∃ v, c[o + j]? = some v ∧ rel ρ (cellAt t (i + j)) v ∧ okC (cellAt t (i + j)) = true) →
    relL ρ (cellsFrom t i n) (c.extract o (o + n)).toList ∧ okCs (cellsFrom t i n) = true
  | 0, i, o, _, _ => by simp [cellsFrom, relL, okCs]
  | n + 1, i, o, hs, hh => by
    obtain ⟨v, h1, h2, h3⟩ := hh 0 (by omega)
    have ih := cellsFrom_rel (t := t) (c := c) n (i + 1) (o + 1) (by omega) (fun j hj => by
      have := hh (j + 1) (by omega)
      rwa [show o + (j + 1) = o + 1 + j by omega, show i + (j + 1) = i + 1 + j by omega] at this)
    refine ⟨relL_cons.2 ⟨v, (c.extract (o + 1) (o + 1 + n)).toList, ?_, h2, ih.1⟩, okCs_cons.2 ⟨h3, ih.2⟩⟩
    apply List.ext_getElem?
    intro j
    simp only [Array.getElem?_toList, Array.getElem?_extract]
    cases j with
    | zero =>
      simp only [Nat.add_zero] at h1 ⊢
      rw [if_pos (by omega), h1]; rfl
    | succ j =>
      rw [List.getElem?_cons_succ, Array.getElem?_toList, Array.getElem?_extract]
      by_cases hj : j < n
      · rw [if_pos (by omega), if_pos (by omega)]
        congr 1; omega
      · rw [if_neg (by omega), if_neg (by omega)]
end
end
end Go.VE
namespace Go.VE
noncomputable section
open Go
section
variable {ρ : Mp}
theorem relO_cells {g : Nat × Nat} {n es : Nat} {t : T AV} {x : Option Obj} {base : Nat} (hr : relO ρ g (.cells n es t) x base) : ∃ c e fz, x = some (.cells c e fz) ∧ n ≤ 140737488355328 ∧
    ∀ i, i < n → ∃ v, c[base + i]? = some v ∧ rel ρ (cellAt t i) v ∧ okC (cellAt t i) = true ∧ ¬ (fz.1 ≤ base + i ∧ base + i < fz.2) := by
  rcases x with _ | x
  · exact hr.elim
  · cases x <;> first | exact hr.elim | exact ⟨_, _, _, rfl, hr.2⟩
theorem relO_spare {g : Nat × Nat} {o : AO} {c : Array Value} {e : TypeId} {fz : Nat × Nat} {base : Nat} (hr : relO ρ g o (some (.cells c e fz)) base) :
    (match o with | .cells _ es _ => es ≠ 0 → g = (es, c.size) | .bytes _ _ => g = (1, c.size) | .map _ => False | .var _ _ _ => True | .rowb _ _ _ _ => g = (1, c.size)) ∧ fzOk fz c.size := by
  cases o with
  | cells _ _ _ => exact hr.1
  | bytes _ _ => exact hr.1
  | map _ => exact hr.elim
  | var _ _ _ => exact ⟨trivial, hr.2.1⟩
  | rowb _ _ _ _ => exact hr.2.1
theorem relO_rowb {g : Nat × Nat} {ty m n x : Nat} {o : Option Obj} {base : Nat} (hr : relO ρ g (.rowb ty m n x) o base) : relO ρ g (.bytes n x) o base ∧ ∃ c fz, o = some (.cells c ty fz) ∧ base + m ≤ c.size := by
  rcases o with _ | o
  · exact hr.elim
  · cases o <;> first | exact hr.elim | skip
    obtain ⟨⟨h1, h3⟩, h2⟩ := hr
    subst h1
    exact ⟨h2, _, _, rfl, h3⟩
theorem rowb_relO {g : Nat × Nat} {ty m n x : Nat} {c : Array Value} {fz : Nat × Nat} {base : Nat} (hr : relO ρ g (.bytes n x) (some (.cells c ty fz)) base) (hm : base + m ≤ c.size) : relO ρ g (.rowb ty m n x) (some (.cells c ty fz)) base := ⟨⟨rfl, hm⟩, hr⟩
theorem relO_var {g : Nat × Nat} {ty n : Nat} {t : T AV} {x : Option Obj} {base : Nat} (hr : relO ρ g (.var ty n t) x base) : base = 0 ∧ relO ρ g (.cells n 0 t) x base ∧ ∃ c fz, x = some (.cells c ty fz) ∧ c.size = n := by
  rcases x with _ | x
  · exact hr.elim
  · cases x <;> first | exact hr.elim | skip
    obtain ⟨⟨h1, h2, h3⟩, h4, h5⟩ := hr
    subst h1
    exact ⟨h2, ⟨⟨fun h => absurd rfl h, h4⟩, h5⟩, _, _, rfl, h3⟩
theorem var_relO {g : Nat × Nat} {ty n : Nat} {t : T AV} {c : Array Value} {fz : Nat × Nat} (hr : relO ρ g (.cells n 0 t) (some (.cells c ty fz)) 0) (hs : c.size = n) : relO ρ g (.var ty n t) (some (.cells c ty fz)) 0 :=
  ⟨⟨rfl, rfl, hs⟩, hr.1.2, hr.2⟩
theorem relO_bytes {g : Nat × Nat} {n x : Nat} {o : Option Obj} {base : Nat} (hr : relO ρ g (.bytes n x) o base) : ∃ c e fz l, o = some (.cells c e fz) ∧ n ≤ 140737488355328 ∧ packs l n x ∧
    ∀ i (hi : i < l.length), c[base + i]? = some (.int .u8 (l[i]'hi).toNat) ∧ ¬ (fz.1 ≤ base + i ∧ base + i < fz.2) := by
  rcases o with _ | o
  · exact hr.elim
  · cases o <;> first | exact hr.elim | (obtain ⟨_, h1, l, h2, h3⟩ := hr; exact ⟨_, _, _, l, rfl, h1, h2, h3⟩)
theorem relO_map {g : Nat × Nat} {l : List (AV × AV)} {o : Option Obj} {base : Nat} (hr : relO ρ g (.map l) o base) : ∃ es c, o = some (.map es c) ∧ base = 0 ∧ MapKept.Stamped es c ∧ es.toList.length = l.length ∧
    ∀ i (hi : i < l.length) (hj : i < es.toList.length), rel ρ (l[i]'hi).1 (es.toList[i]'hj).key ∧ rel ρ (l[i]'hi).2 (es.toList[i]'hj).val := by
  rcases o with _ | o
  · exact hr.elim
  · cases o <;> first | exact hr.elim | exact ⟨_, _, rfl, hr⟩
theorem getElem?_lt {c : Array Value} {i : Nat} {v : Value} (h : c[i]? = some v) : i < c.size := by
  rcases Nat.lt_or_ge i c.size with g | g
  · exact g
  · rw [Array.getElem?_eq_none g] at h; cases h
theorem cells_fit {n : Nat} {t : T AV} {c : Array Value} {base : Nat} {q : Nat → Prop} (h : ∀ i, i < n → ∃ v, c[base + i]? = some v ∧ rel ρ (cellAt t i) v ∧ okC (cellAt t i) = true ∧ q i) {i m : Nat} (hm : 0 < m) (hi : i + m ≤ n) : base + i + m ≤ c.size := by
  obtain ⟨v, h1, _⟩ := h (i + m - 1) (by omega)
  have := getElem?_lt h1; omega
theorem fillT_at : ∀ (n : Nat) {t : T AV} {i : Nat} {s : T AV} {j0 : Nat} (j : Nat), j0 + n ≤ top →
    cellAt (fillT t n i s j0) j = if j0 ≤ j ∧ j < j0 + n then cellAt s (i + (j - j0)) else cellAt t j
  | 0, t, i, s, j0, j, _ => by rw [if_neg (by omega)]; rfl
  | n + 1, t, i, s, j0, j, hb => by
    simp only [fillT]
    rw [fillT_at n j (by omega), cellAt_put (by omega)]
    by_cases h1 : j0 + 1 ≤ j ∧ j < j0 + 1 + n
    · rw [if_pos h1, if_pos (by omega)]; congr 1; omega
    · rw [if_neg h1]
      by_cases h2 : j = j0
      · subst h2; rw [if_pos rfl, if_pos (by omega)]; congr 1; omega
      · rw [if_neg h2, if_neg (by omega)]
theorem repT_at {zero : AV} {size : Nat} (hc : Chain zero) (hz : lenC zero = size) : ∀ (n : Nat) {i : Nat} {t : T AV} (j : Nat), i + n * size ≤ top →
    (i ≤ j → j < i + n * size → nthC ((j - i) % size) zero = some (cellAt (repT zero size n i t) j)) ∧ (¬ (i ≤ j ∧ j < i + n * size) → cellAt (repT zero size n i t) j = cellAt t j)
  | 0, i, t, j, _ => ⟨fun h1 h2 => by rw [Nat.zero_mul] at h2; omega, fun _ => rfl⟩
  | n + 1, i, t, j, hb => by
    have e1 : (n + 1) * size = size + n * size := by rw [Nat.add_mul]; omega
    rw [e1] at hb ⊢
    have h := repT_at hc hz n (i := i + size) (t := listT zero i t) j (by omega)
    have g := listT_at hc (i := i) (t := t) j (by omega)
    rw [hz] at g
    simp only [repT]
    constructor
    · intro h1 h2
      by_cases hj : j < i + size
      · rw [h.2 (by omega), ← g.1 h1 hj]
        congr 1
        exact Nat.mod_eq_of_lt (by omega)
      · rw [← h.1 (by omega) (by omega)]
        congr 1
        have e2 : j - i = (j - (i + size)) + size := by omega
        rw [e2, Nat.add_mod_right]
    · intro h1
      rw [h.2 (by omega), g.2 (by omega)]
theorem relO_chain {g : Nat × Nat} {l : AV} {c : Array Value} {e : TypeId} (hr : relL ρ l c.toList) (ho : okCs l = true) (hl : lenC l ≤ 140737488355328) : relO ρ g (.cells (lenC l) 0 (listT l 0 .nil)) (some (.cells c e (0, 0))) 0 := by
  have hc := chain_of_relL hr
  refine ⟨⟨fun h => absurd rfl h, .inl rfl⟩, hl, fun i hi => ?_⟩
  have h1 := (listT_at hc (i := 0) (t := .nil) i (by unfold top; omega)).1 (by omega) (by omega)
  rw [Nat.sub_zero] at h1
  obtain ⟨v, h2, h3⟩ := relL_nth hc hr h1
  refine ⟨v, ?_, h3, okCs_nth hc ho h1, by omega⟩
  rw [Nat.zero_add]; rwa [Array.getElem?_toList] at h2
theorem relO_zero {zero : AV} {zs : Array Value} {c size : Nat} {e : TypeId} (hr : relL ρ zero zs.toList) (ho : okCs zero = true) (hz : lenC zero = size) (hl : c * size ≤ 140737488355328) :
    relO ρ (size, c * size) (.cells (c * size) size (zeroT zero size c)) (some (.cells ((Array.range (c * size)).map (zs[· % zs.size]!)) e (0, 0))) 0 := by
  have hc := chain_of_relL hr
  have hs : zs.size = size := by rw [← hz, relL_len hc hr]; simp
  refine ⟨⟨fun _ => by simp, .inl rfl⟩, hl, fun i hi => ?_⟩
  have h1 := (repT_at hc hz c (i := 0) (t := .nil) i (by unfold top; omega)).1 (by omega) (by omega)
  rw [Nat.sub_zero] at h1
  obtain ⟨v, h2, h3⟩ := relL_nth hc hr h1
  refine ⟨v, ?_, h3, okCs_nth hc ho h1, by omega⟩
  rw [Array.getElem?_toList] at h2
  rw [Nat.zero_add, Array.getElem?_map]
  have : (Array.range (c * size))[i]? = some i := by simp [hi]
  rw [this, hs]
  simp only [Option.map_some]
  congr 1
  have h4 := getElem?_lt h2
  rw [getElem!_pos zs _ h4]
  rw [Array.getElem?_eq_getElem h4] at h2
  exact Option.some.inj h2
theorem relO_zeroB {zs : Array Value} {c : Nat} {e : TypeId} (hz : zs = #[.int .u8 0]) (hl : c ≤ 140737488355328) :
    relO ρ (1, c) (.bytes c 0) (some (.cells ((Array.range (c * 1)).map (zs[· % zs.size]!)) e (0, 0))) 0 := by
  subst hz
  refine ⟨⟨by simp, .inl rfl⟩, hl, List.replicate c 0, packs_zero c, fun i hi => ⟨?_, by omega⟩⟩
  simp only [List.length_replicate] at hi
  simp [hi, Nat.mod_one]
theorem relO_bs {l : List UInt8} {n x : Nat} {c : Array Value} {e : TypeId} {fz : Nat × Nat} (hp : packs l n x) (hl : n ≤ 140737488355328) (hc : ∀ i (hi : i < l.length), c[i]? = some (.int .u8 (l[i]'hi).toNat)) (hf : fzOk fz c.size) :
    relO ρ (1, c.size) (.bytes n x) (some (.cells c e fz)) 0 :=
  ⟨⟨rfl, hf⟩, hl, l, hp, fun i hi => ⟨by rw [Nat.zero_add]; exact hc i hi, by rw [Nat.zero_add]; exact hf.at_ (getElem?_lt (hc i hi))⟩⟩
theorem relO_lay {g : Nat × Nat} {m es : Nat} {t : T AV} {c : Array Value} {e : TypeId} {fz : Nat × Nat} {base i : Nat} {l : AV} {vs : List Value}
    (hsp : (es ≠ 0 → g = (es, c.size)) ∧ fzOk fz c.size) (h : m ≤ 140737488355328 ∧ ∀ i, i < m → ∃ v, c[base + i]? = some v ∧ rel ρ (cellAt t i) v ∧ okC (cellAt t i) = true ∧ ¬ (fz.1 ≤ base + i ∧ base + i < fz.2))
    (hr : relL ρ l vs) (ho : okCs l = true) (hi : i + lenC l ≤ m) : relO ρ g (.cells m es (listT l i t)) (some (.cells (setRow c (base + i) vs) e fz)) base := by
  have hc := chain_of_relL hr
  have hlen := relL_len hc hr
  refine ⟨⟨fun he => by rw [setRow_size]; exact hsp.1 he, by rw [setRow_size]; exact hsp.2⟩, h.1, fun j hj => ?_⟩
  obtain ⟨v, h1, h2, h3, h4⟩ := h.2 j hj
  have g := listT_at hc (i := i) (t := t) j (by unfold top; omega)
  have hsz : base + i + vs.length ≤ c.size := by
    rcases Nat.eq_zero_or_pos (lenC l) with e0 | e0
    · have := getElem?_lt h1
      by_cases hx : i < m
      · obtain ⟨_, h5, _⟩ := h.2 i hx; have := getElem?_lt h5; omega
      · obtain ⟨_, h5, _⟩ := h.2 (m - 1) (by omega); have := getElem?_lt h5; omega
    · have := cells_fit (q := fun _ => _) h.2 e0 hi; omega
  rw [setRow_get _ _ _ _ hsz]
  by_cases hin : i ≤ j ∧ j < i + lenC l
  · have h5 := g.1 hin.1 hin.2
    obtain ⟨u, h6, h7⟩ := relL_nth hc hr h5
    refine ⟨u, ?_, h7, okCs_nth hc ho h5, h4⟩
    rw [if_pos (by omega), ← h6]; congr 1; omega
  · rw [g.2 hin, if_neg (by omega)]
    exact ⟨v, h1, h2, h3, h4⟩
end
section
variable {P : Program} {ρ : Mp} {h : H} {n : Nat} {w : World} {k : K} {rr : RR}
theorem wr_run (hi : Inv ρ h n w) (hne : rr ≠ .fail) {b i r base : Nat} {l : AV} {vs : List Value} (hρ : ρ b = some (r, base)) (hr : relL ρ l vs) (ho : okCs l = true)
    (e : wrO b i l (getO h b) h n k = rr) : ∃ h' w', k .undef h' n = rr ∧ (storeCells ⟨r, base + i, none⟩ vs).run P w = .ok () w' ∧ Goes ρ h n w ρ h' n w' := by
  have hc := chain_of_relL hr
  have hlen := relL_len hc hr
  have e0 : Nat.ble KG b = true ∧ wrO' b i l (getO h b) h n k = rr := br_fail e hne
  clear e
  obtain ⟨hkb, e⟩ := e0
  rw [Nat.ble_eq] at hkb
  cases ho1 : getO h b with
  | none => rw [ho1] at e; exact absurd e.symm hne
  | some o =>
    rw [ho1] at e
    obtain ⟨r', base', h1, h2⟩ := hi.obj b o ho1
    rw [hρ] at h1; cases h1
    cases o with
    | map _ => exact absurd e.symm hne
    | rowb _ _ _ _ => exact absurd e.symm hne
    | var ty m t =>
      obtain ⟨hle, e⟩ := br_fail e hne
      rw [Nat.ble_eq] at hle
      obtain ⟨hb0, h2', c, fz, g1, gs⟩ := relO_var h2
      subst hb0
      rw [g1] at h2'
      obtain ⟨c', et', fz', q1, g2, g3⟩ := relO_cells h2'
      cases q1
      have hsp := relO_spare h2'
      have hsz : 0 + i + vs.length ≤ c.size := by omega
      obtain ⟨w', r1, r2, r3, r4, r5⟩ := storeCells_run (P := P) vs (o := 0 + i) (i := 0) g1 (by omega) (fun j hj1 hj2 => hsp.2.at_ (by omega)) (relL_cellV hc ho hr)
      refine ⟨_, w', e, r1, hi.set ho1 hρ hkb ?_ r3 r4 r5⟩
      rw [r2]
      exact var_relO (relO_lay hsp ⟨g2, g3⟩ hr ho hle) (by rw [setRow_size]; exact gs)
    | cells m es t =>
      obtain ⟨hle, e⟩ := br_fail e hne
      rw [Nat.ble_eq] at hle
      obtain ⟨c, et, fz, g1, g2, g3⟩ := relO_cells h2
      have hsp := relO_spare (by rw [← g1]; exact h2 : relO ρ (ρ.g b) (.cells m es t) (some (.cells c et fz)) base)
      have hsz : base + i + vs.length ≤ c.size ∨ vs = [] := by
        rcases Nat.eq_zero_or_pos (lenC l) with e0 | e0
        · right; exact List.eq_nil_of_length_eq_zero (by omega)
        · left; have := cells_fit (q := fun _ => _) g3 e0 hle; omega
      rcases hsz with hsz | hsz
      · obtain ⟨w', r1, r2, r3, r4, r5⟩ := storeCells_run (P := P) vs (o := base + i) (i := 0) g1 (by omega) (fun j hj1 hj2 => by
          obtain ⟨_, _, _, _, h5⟩ := g3 (j - base) (by omega)
          rwa [show base + (j - base) = j by omega] at h5) (relL_cellV hc ho hr)
        refine ⟨_, w', e, r1, hi.set ho1 hρ hkb ?_ r3 r4 r5⟩
        rw [r2]
        exact relO_lay hsp ⟨g2, g3⟩ hr ho hle
      · subst hsz
        refine ⟨_, w, e, by simp [storeCells], hi.set ho1 hρ hkb ?_ (fun _ _ => rfl) rfl⟩
        have := relO_lay (e := et) hsp ⟨g2, g3⟩ hr ho hle
        rw [g1]; exact this
    | bytes m x =>
      simp only [wrO'] at e
      split at e
      · rename_i q
        obtain ⟨hlt, e1⟩ := br_fail e hne
        rw [Nat.blt_eq] at hlt
        rw [frc_eq] at e1
        obtain ⟨v, r0, rfl, g4, g5⟩ := relL_cons.1 hr
        obtain rfl : r0 = [] := relL_nil.1 g5
        obtain ⟨z, rfl, hq, hz⟩ := int_inv (kd := .u8) g4
        have hq2 : q < 256 := by rw [hq]; exact enc_lt .u8 z
        have hz2 : z = (q : Int) := by
          have := enc_self hz
          rw [← hq] at this
          exact (this.2 (this.1.1 hq2)).symm
        subst hz2
        obtain ⟨c, et, fz, lb, g1, g2, g3, g6⟩ := relO_bytes h2
        have hsp := relO_spare (by rw [← g1]; exact h2 : relO ρ (ρ.g b) (.bytes m x) (some (.cells c et fz)) base)
        have hlb : lb.length = m := g3.1
        obtain ⟨g7, g8⟩ := g6 i (by omega)
        have hcs := getElem?_lt g7
        obtain ⟨w', r1, r2, r3, r4, r5⟩ := storeCells_run (P := P) [.int .u8 (q : Int)] (o := base + i) (i := 0) g1 (by simp; omega) (fun j hj1 hj2 => by
          simp at hj2
          rwa [show j = base + i by omega]) (fun v hv => by rw [List.mem_singleton.1 hv]; trivial)
        refine ⟨_, w', e1, r1, hi.set ho1 hρ hkb ?_ r3 r4 r5⟩
        rw [r2]
        refine ⟨⟨by rw [setRow_size]; exact hsp.1, by rw [setRow_size]; exact hsp.2⟩, g2, _, packs_lay g3 (packs_one hq2) (by omega), fun j hj => ?_⟩
        have hj' : j < m := by
          have := (packs_lay g3 (packs_one hq2) (show i + 1 ≤ m by omega)).1
          rw [this] at hj; exact hj
        obtain ⟨g9, g10⟩ := g6 j (by omega)
        refine ⟨?_, g10⟩
        rw [setRow_get _ _ _ _ (by simp; omega)]
        simp only [List.length_cons, List.length_nil, Nat.zero_add, Nat.add_zero]
        by_cases hji : j = i
        · subst hji
          rw [if_pos (by omega)]
          simp only [Nat.sub_self, List.getElem?_cons_zero]
          congr 2
          rw [List.getElem_append_left (by simp; omega), List.getElem_append_right (by simp; omega)]
          simp
          omega
        · rw [if_neg (by omega), g9]
          congr 3
          by_cases hlt2 : j < i
          · rw [List.getElem_append_left (by simp; omega), List.getElem_append_left (by simp; omega), List.getElem_take]
          · have hL : (List.take i lb ++ [UInt8.ofNat q]).length = i + 1 := by simp; omega
            rw [List.getElem_append_right (by omega), List.getElem_drop]
            have hI : i + 1 + (j - (List.take i lb ++ [UInt8.ofNat q]).length) = j := by rw [hL]; omega
            simp only [hI]
      · exact absurd e.symm hne
end
end
end Go.VE
namespace Go.VE
noncomputable section
open Go
section
variable {P : Program} {ρ : Mp} {h : H} {n : Nat} {w : World} {k : K} {rr : RR}
def Unt (P : Program) (s : Sem Unit) (ρ : Mp) (h : H) (n : Nat) (w : World) (k : K) (rr : RR) : Prop :=
  ∃ h' n' σ w', k .undef h' n' = rr ∧ s.run P w = .ok () w' ∧ Goes ρ h n w σ h' n' w'
theorem lenL_eq {α : Type} (l : List α) : lenL l = l.length := by induction l <;> simp [lenL, *]
theorem getObj_run {r : Nat} {o : Obj} (ho : w.heap[r]? = some o) (hc : ∀ c e f, o ≠ .cells c e f) : (getObj r).run P w = .ok o w := by
  cases o <;> first | exact absurd rfl (hc _ _ _) | simp [getObj, Sem.run, ho]
section
variable (hi : Inv ρ h n w) (hne : rr ≠ .fail)
include hi hne
theorem val_not {x : AV} {rx : Value} (hx : rel ρ x rx) (e : (asBool x fun b => k (.bool (!b)) h n) = rr) : Val P (Op.unary .not rx) ρ h n w k rr := by
  obtain ⟨b, rfl, e1⟩ := asBool_inv e hne
  rw [bool_inv hx]
  exact .same hi e1 rfl (rel_bool _)
theorem val_neg {kd : IntKind} {x : AV} {rx : Value} (hx : rel ρ x rx) (e : (asInt x fun i a => br (Nat.beq i (kindN kd)) (frc ((moN (kindN kd) - a) % moN (kindN kd)) fun c => k (.int (kindN kd) c) h n) .fail) = rr) :
    Val P (Op.unary .neg rx) ρ h n w k rr := by
  obtain ⟨i, a, rfl, e1⟩ := asInt_inv e hne
  obtain ⟨h1, e2⟩ := br_fail e1 hne
  rw [Nat.beq_eq] at h1; subst h1
  rw [frc_eq] at e2
  obtain ⟨p, rfl, rfl, hp⟩ := int_inv hx
  exact .same hi e2 rfl (rel_int' (enc_neg _ _).symm)
theorem enc_conv (j kd : IntKind) (p : Int) (hp : inK j p) : encI kd p = if encI j p < hiN (kindN j) then encI j p % moN (kindN kd) else (encI j p + (18446744073709551616 - moN (kindN j))) % moN (kindN kd) := by
  unfold inK at hp
  rw [(minmax j).1, (minmax j).2] at hp
  cases j <;> cases kd <;> simp only [encI, kindN, moN, hiN] at hp ⊢ <;> split <;> omega
theorem val_toInt {kd : IntKind} {x : AV} {rx : Value} {s d : TypeId} (hx : rel ρ x rx) (hd : P.underlying d = some (.int kd)) {ds : TypeDesc} (hs : P.underlying s = some ds)
    (e : (asInt x fun i a => br (Nat.blt a (hiN i)) (frc (a % moN (kindN kd)) fun c => k (.int (kindN kd) c) h n) (frc ((a + (18446744073709551616 - moN i)) % moN (kindN kd)) fun c => k (.int (kindN kd) c) h n)) = rr) :
    Val P (convert s d rx) ρ h n w k rr := by
  obtain ⟨i, a, rfl, e1⟩ := asInt_inv e hne
  obtain ⟨j, p, rfl, rfl, rfl, hp⟩ := int_inv' hx
  refine .same (v := .int (kindN kd) (encI kd p)) (rv := .int kd (kd.wrap p)) hi ?_ ?_ (rel_int' rfl)
  · rw [enc_conv hi hne j kd p hp]
    rw [br_if, frc_eq, frc_eq] at e1
    simp only [Nat.blt_eq] at e1
    split at e1
    · rename_i hh; rw [if_pos hh]; exact e1
    · rename_i hh; rw [if_neg hh]; exact e1
  · simp only [convert, Sem.run_bind, run_und hd, run_und hs, Result.andThen_ok]
    cases ds <;> rfl
theorem val_mkIf {t : Nat} {x : AV} {rx : Value} (hx : rel ρ x rx) {d : TypeDesc} (hd : P.underlying t = some d) (hn : ∀ ms, d ≠ .interface ms) (e : k (.iface t x) h n = rr) : Val P (Instr.makeInterface t rx) ρ h n w k rr := by
  refine .same hi e (rv := .iface t rx) ?_ (by simp only [rel]; exact ⟨rx, rfl, hx⟩)
  simp only [Instr.makeInterface, Sem.run_bind, run_und hd, Result.andThen_ok, Sem.run_pure]
theorem val_ext {x : AV} {rx : Value} {i : Nat} (hx : rel ρ x rx) (e : extA x i h n k = rr) : Val P (Instr.extract rx i) ρ h n w k rr := by
  cases x <;> try exact absurd e.symm hne
  obtain ⟨a, h1, e1⟩ := kO_inv e hne
  simp only [rel] at hx
  obtain ⟨cs, rfl, hl⟩ := hx
  obtain ⟨v, h2, h3⟩ := relL_nth (chain_of_relL hl) hl h1
  refine .same hi e1 ?_ h3
  rw [Array.getElem?_toList] at h2
  simp only [Instr.extract, h2, Sem.run_pure]
theorem part_run {t : TypeId} {i : TypeInfo} {d : TypeDesc} (hin : P.info? t = some i) (hd : P.underlying t = some d) {l : AV} {cs : Array Value} {off : Nat} (hl : relL ρ l cs.toList) (ho : okCs l = true) {a : AV}
    (hs : aggD d = true → a = .agg (takeC i.size (dropC off l))) (hs' : aggD d = false → nthC off l = some a) : ∃ v, (part t cs off).run P w = .ok v w ∧ rel ρ a v := by
  have hc := chain_of_relL hl
  unfold part
  simp only [Sem.run_bind, run_isAgg hd, Result.andThen_ok]
  cases ha : aggD d with
  | true =>
    simp only [if_true, Sem.run_bind, run_size hin, Result.andThen_ok, Sem.run_pure]
    refine ⟨_, rfl, ?_⟩
    rw [hs ha]
    simp only [rel]
    refine ⟨_, rfl, ?_, okCs_take (chain_drop hc off) _ (okCs_drop hc off ho)⟩
    have := relL_take (chain_drop hc off) i.size (relL_drop hc off hl)
    have e : (cs.extract off (off + i.size)).toList = (cs.toList.drop off).take i.size := by
      simp
    rw [e]; exact this
  | false =>
    obtain ⟨v, h1, h2⟩ := relL_nth hc hl (hs' ha)
    rw [Array.getElem?_toList] at h1
    simp only [Bool.false_eq_true, if_false, h1, Sem.run_pure]
    exact ⟨v, rfl, h2⟩
theorem val_part {t : TypeId} {fs : Array Field} {fi : Nat} {f : Field} {ft : TypeInfo} {fd : TypeDesc} {x : AV} {rx : Value} (hx : rel ρ x rx) (ht : P.underlying t = some (.struct fs)) (hf : fs[fi]? = some f)
    (hft : P.info? f.type = some ft) (hfd : P.underlying f.type = some fd) (e : partA f.offset (br (aggD fd) (some ft.size) none) x h n k = rr) : Val P (Instr.field t rx fi) ρ h n w k rr := by
  cases x <;> try exact absurd e.symm hne
  simp only [rel] at hx
  obtain ⟨cs, rfl, hl, ho⟩ := hx
  have key : ∃ a, k a h n = rr ∧ ∃ v, (part f.type cs f.offset).run P w = .ok v w ∧ rel ρ a v := by
    cases ha : aggD fd with
    | true =>
      rw [ha, br_true] at e
      exact ⟨_, e, part_run hi hne hft hfd hl ho (fun _ => rfl) (fun h => by rw [ha] at h; cases h)⟩
    | false =>
      rw [ha, br_false] at e
      obtain ⟨a, h1, e1⟩ := kO_inv e hne
      exact ⟨a, e1, part_run hi hne hft hfd hl ho (fun h => by rw [ha] at h; cases h) (fun _ => h1)⟩
  obtain ⟨a, h1, v, h2, h3⟩ := key
  refine .same hi h1 ?_ h3
  simp only [Instr.field, Sem.run_bind, run_und ht, Result.andThen_ok, hf, asAgg, Sem.run_pure, h2]
theorem idx_inv {v : AV} {m : Nat} {f : Nat → RR} (e : idx v m f = rr) : ∃ kd u, v = .int kd u ∧ u < hiN kd ∧ u < m ∧ f u = rr := by
  obtain ⟨kd, u, rfl, e1⟩ := asInt_inv e hne
  obtain ⟨h1, e2⟩ := br_fail e1 hne
  obtain ⟨h2, e3⟩ := br_fail e2 hne
  rw [Nat.blt_eq] at h1 h2
  exact ⟨kd, u, rfl, h1, h2, e3⟩
theorem nat_inv {kd u : Nat} {v : Value} (hr : rel ρ (.int kd u) v) (hu : u < hiN kd) : ∃ j : IntKind, kd = kindN j ∧ v = .int j u := by
  obtain ⟨j, p, rfl, rfl, rfl, hp⟩ := int_inv' hr
  have := enc_self hp
  exact ⟨j, rfl, by rw [this.2 (this.1.1 hu)]⟩
theorem val_idxS {t : TypeId} {x y : AV} {rx ry : Value} (hx : rel ρ x rx) (hy : rel ρ y ry) (ht : P.underlying t = some .string) (e : idxSA x y h n k = rr) : Val P (Instr.index t rx ry) ρ h n w k rr := by
  cases x <;> try exact absurd e.symm hne
  rename_i m z
  simp only [idxSA] at e
  obtain ⟨kd, u, rfl, h1, h2, e1⟩ := idx_inv hi hne e
  rw [frc_eq] at e1
  simp only [rel] at hx
  obtain ⟨s, rfl, hs⟩ := hx
  obtain ⟨j, rfl, rfl⟩ := nat_inv hi hne hy h1
  have hb := byteAt_eq hs h2
  have hlt : u < s.size := by rw [Lib.size_eq, hs.1]; exact h2
  refine .same hi e1 (rv := .int .u8 (s[u].toNat : Int)) ?_ ?_
  · have h0 : (0 : Int) ≤ (u : Int) := by omega
    simp only [Instr.index, Sem.run_bind, asIntOf, Sem.run_pure, Result.andThen_ok, run_und ht, h0, if_true, Int.toNat_natCast]
    rw [show s[u]? = some s[u] by simp [hlt]]
    rfl
  · rw [hb]
    have e2 : s[u] = (s.data.toList[u]'(by rw [hs.1]; exact h2)) := by
      simp [ByteArray.getElem_eq_getElem_data]
    rw [← e2]
    have hlt2 : s[u].toNat < 256 := s[u].toNat_lt
    have := rel_int (ρ := ρ) (kd := .u8) (in_nat (k := .u8) (m := s[u].toNat) (by simpa [kindN, hiN] using hlt2))
    rwa [enc_nat (k := .u8) (by simpa [kindN, moN] using hlt2)] at this
theorem val_idxA {t et : TypeId} {m : Nat} {ei : TypeInfo} {ed : TypeDesc} {x y : AV} {rx ry : Value} (hx : rel ρ x rx) (hy : rel ρ y ry) (ht : P.underlying t = some (.array m et)) (hei : P.info? et = some ei) (hed : P.underlying et = some ed)
    (e : (idx y m fun i => idxAA ei.size (aggD ed) i x h n k) = rr) : Val P (Instr.index t rx ry) ρ h n w k rr := by
  obtain ⟨kd, u, rfl, h1, h2, e1⟩ := idx_inv hi hne e
  obtain ⟨j, rfl, rfl⟩ := nat_inv hi hne hy h1
  cases x <;> try exact absurd e1.symm hne
  simp only [rel] at hx
  obtain ⟨cs, rfl, hl, ho⟩ := hx
  have key : ∃ a, k a h n = rr ∧ ∃ v, (part et cs (u * ei.size)).run P w = .ok v w ∧ rel ρ a v := by
    simp only [idxAA] at e1
    cases ha : aggD ed with
    | true =>
      rw [ha, br_true] at e1
      exact ⟨_, e1, part_run hi hne hei hed hl ho (fun _ => rfl) (fun h => by rw [ha] at h; cases h)⟩
    | false =>
      rw [ha, br_false] at e1
      obtain ⟨a, h1, e1⟩ := kO_inv e1 hne
      exact ⟨a, e1, part_run hi hne hei hed hl ho (fun h => by rw [ha] at h; cases h) (fun _ => h1)⟩
  obtain ⟨a, h3, v, h4, h5⟩ := key
  refine .same hi h3 ?_ h5
  have h0 : (0 : Int) ≤ (u : Int) ∧ (u : Int) < (m : Int) := by omega
  simp only [Instr.index, Sem.run_bind, asIntOf, Sem.run_pure, Result.andThen_ok, run_und ht, h0, and_self, if_true, Int.toNat_natCast, run_size hei, h4]
theorem val_asrtT {t a : TypeId} {ad : TypeDesc} {ai : TypeInfo} {zero : AV} {zv : Value} {x : AV} {rx : Value} (hx : rel ρ x rx) (ha : P.underlying a = some ad) (hn : ∀ ms, ad ≠ .interface ms) (hai : P.info? a = some ai) (hz : ai.zero = some zv)
    (hzr : rel ρ zero zv) (e : asrtTA a zero x h n k = rr) : Val P (Instr.typeAssert rx t a true) ρ h n w k rr := by
  have hfail : Val P (Instr.typeAssert rx t a true) ρ h n w k rr ↔ Val P (Instr.typeAssert rx t a true) ρ h n w k rr := Iff.rfl
  have h2 : ∀ (v : AV) (rv : Value) (b : Bool), rel ρ v rv → rel ρ (two v b) (.tuple #[rv, .bool b]) := fun v rv b hv => by
    simp only [two, rel]
    exact ⟨_, rfl, relL_cons.2 ⟨rv, [.bool b], rfl, hv, relL_cons.2 ⟨.bool b, [], rfl, rel_bool b, relL_nil.2 rfl⟩⟩⟩
  cases x <;> try exact absurd e.symm hne
  case iface u v =>
    simp only [rel] at hx
    obtain ⟨rv, rfl, hv⟩ := hx
    simp only [asrtTA, br_if] at e
    by_cases hu : Nat.beq u a = true
    · rw [if_pos hu] at e
      rw [Nat.beq_eq] at hu; subst hu
      refine .same hi e ?_ (h2 _ _ _ hv)
      simp only [Instr.typeAssert, Sem.run_bind, run_und ha, Result.andThen_ok]
      cases ad <;> first | exact absurd rfl (hn _) | simp
    · rw [if_neg hu] at e
      rw [Nat.beq_eq] at hu
      refine .same hi e ?_ (h2 _ _ _ hzr)
      simp only [Instr.typeAssert, Sem.run_bind, run_und ha, Result.andThen_ok]
      cases ad <;> first | exact absurd rfl (hn _) | simp [hu, run_zero hai hz]
  case nili =>
    simp only [rel] at hx
    subst hx
    refine .same hi e ?_ (h2 _ _ _ hzr)
    simp only [Instr.typeAssert, Sem.run_bind, run_und ha, Result.andThen_ok]
    cases ad <;> first | exact absurd rfl (hn _) | simp [run_zero hai hz]
theorem small_inv {m : Nat} {r : RR} (e : small m r = rr) : m < 9223372036854775808 ∧ r = rr := by
  obtain ⟨h1, h2⟩ := br_fail e hne
  rw [Nat.blt_eq] at h1
  exact ⟨h1, h2⟩
theorem rel_goInt {m : Nat} (hm : m < 9223372036854775808) : rel ρ (.int 3 m) (goInt m) := by
  have := rel_int (ρ := ρ) (kd := .i64) (in_nat (k := .i64) (m := m) (by simpa [kindN, hiN] using hm))
  rwa [enc_nat (k := .i64) (by simp [kindN, moN]; omega)] at this
theorem val_lenC {m : Nat} {s : Sem Value} (hs : s.run P w = .ok (goInt m) w) (e : small m (k (.int 3 m) h n) = rr) : Val P s ρ h n w k rr := by
  obtain ⟨h1, e1⟩ := small_inv hi hne e
  exact .same hi e1 hs (rel_goInt hi hne h1)
theorem val_lenS {t : TypeId} {tt : TypeId} {ats : Array TypeId} {x : AV} {rx : Value} (hx : rel ρ x rx) (h0 : ats[0]? = some t) (hd : P.underlying t = some .string)
    (e : lenSA x h n k = rr) : Val P (Builtin.len_ ats tt #[rx]) ρ h n w k rr := by
  cases x <;> try exact absurd e.symm hne
  obtain ⟨h1, e1⟩ := small_inv hi hne e
  rw [frc_eq] at e1
  simp only [rel] at hx
  obtain ⟨s, rfl, hs⟩ := hx
  refine .same hi e1 ?_ (rel_goInt hi hne h1)
  rw [← hs.1, ← Lib.size_eq]
  simp [Builtin.len_, h0, run_und hd]
theorem val_lenSl {t et : TypeId} {tt : TypeId} {ats : Array TypeId} {x : AV} {rx : Value} (hx : rel ρ x rx) (h0 : ats[0]? = some t) (hd : P.underlying t = some (.slice et))
    (e : lenSlA x h n k = rr) : Val P (Builtin.len_ ats tt #[rx]) ρ h n w k rr := by
  cases x <;> try exact absurd e.symm hne
  case nils =>
    simp only [rel] at hx; subst hx
    exact .same hi e (by simp [Builtin.len_, h0, run_und hd]) (rel_goInt hi hne (m := 0) (by omega))
  case sl b o l c ex =>
    obtain ⟨h1, e1⟩ := small_inv hi hne e
    rw [frc_eq] at e1
    simp only [rel] at hx
    obtain ⟨r, o', f, c', _, rfl, _⟩ := hx
    exact .same hi e1 (by simp [Builtin.len_, h0, run_und hd]) (rel_goInt hi hne h1)
theorem val_lenM {t kt et : TypeId} {tt : TypeId} {ats : Array TypeId} {x : AV} {rx : Value} (hx : rel ρ x rx) (h0 : ats[0]? = some t) (hd : P.underlying t = some (.map kt et))
    (e : lenMA x h n k = rr) : Val P (Builtin.len_ ats tt #[rx]) ρ h n w k rr := by
  cases x <;> try exact absurd e.symm hne
  case nilm =>
    simp only [rel] at hx; subst hx
    exact .same hi e (by simp [Builtin.len_, h0, run_und hd]) (rel_goInt hi hne (m := 0) (by omega))
  case map b =>
    simp only [rel] at hx
    obtain ⟨r, hρ, rfl⟩ := hx
    simp only [lenMA] at e
    cases ho : getO h b with
    | none => rw [ho] at e; exact absurd e.symm hne
    | some o =>
      rw [ho] at e
      cases o <;> try exact absurd e.symm hne
      rename_i l
      obtain ⟨r', base, h1, h2⟩ := hi.obj b _ ho
      rw [hρ] at h1; cases h1
      obtain ⟨es, cl, h3, _, _, h4, _⟩ := relO_map h2
      have e2 : lenL l = es.size := by rw [lenL_eq, ← h4]; simp
      simp only [lenO] at e
      obtain ⟨h5, e1⟩ := small_inv hi hne e
      rw [frc_eq] at e1
      refine .same hi e1 ?_ (rel_goInt hi hne h5)
      rw [e2]
      have h6 := getObj_run (P := P) h3 (fun _ _ _ => by simp)
      simp only [Builtin.len_]
      simp [h0, run_und hd, h6]
end
end
end
end Go.VE
namespace Go.VE
noncomputable section
open Go
section
variable {P : Program} {ρ : Mp} {h : H} {n : Nat} {w : World} {k : K} {rr : RR}
theorem ptr_inv {b off : Nat} {v : Value} (hr : rel ρ (.ptr b off) v) : ∃ r o, ρ b = some (r, o) ∧ v = .pointer (some ⟨r, o + off, none⟩) := by simpa only [rel] using hr
theorem rel_ptr {b off r o : Nat} (hρ : ρ b = some (r, o)) : rel ρ (.ptr b off) (.pointer (some ⟨r, o + off, none⟩)) := by simp only [rel]; exact ⟨r, o, hρ, rfl⟩
theorem alloc_heap (w : World) (o : Obj) : (w.alloc o).heap = w.heap.push o := rfl
theorem alloc_goes (hi : Inv ρ h n w) (hne : rr ≠ .fail) {ao : AO} {o : Obj} {f : H → Nat → RR} {y : Nat × Nat} (e : alloc ao h n f = rr) (hr : fitO ao = true → relO ρ y ao (some o) 0) :
    f (setO h n ao) (n + 1) = rr ∧ Goes ρ h n w (ρ.ext n (w.heap.size, 0) y) (setO h n ao) (n + 1) (w.alloc o) := by
  obtain ⟨h1, h2, h3⟩ := alloc_inv e hne
  exact ⟨h3, hi.push h1 rfl (hr h2)⟩
theorem run_newRow (e : TypeId) (c : Array Value) : (newRow e c).run P w = .ok ⟨w.heap.size, 0, none⟩ (w.alloc (.cells c e)) := by
  simp [newRow]
theorem wrap_nat {a : Nat} (h : a < 9223372036854775808) : IntKind.i64.wrap (a : Int) = a := by
  have h1 := wrap_spec .i64 (a : Int)
  exact enc_inj h1.2 (in_nat (k := .i64) (by simpa [kindN, hiN] using h)) h1.1
theorem makeSlice_run {t et : TypeId} {ei : TypeInfo} {z : Value} {j1 j2 : IntKind} {a c : Nat} (ht : P.underlying t = some (.slice et)) (hei : P.info? et = some ei) (hz : ei.zero = some z) (h1 : a ≤ c) (h2 : c < 9223372036854775808)
    (h3 : c * ei.bytes ≤ 140737488355328) (hs : ei.size = z.cells.size) :
    (Instr.makeSlice t (.int j1 a) (.int j2 c)).run P w = .ok (.slice (some ⟨w.heap.size, 0, none⟩) a c) (w.alloc (.cells ((Array.range (c * ei.size)).map (z.cells[· % z.cells.size]!)) et)) := by
  have w1 := wrap_nat (a := a) (by omega)
  have w2 := wrap_nat (a := c) h2
  have g1 : ¬ ((c : Int) < 0) := by omega
  have g2 : ¬ ((ei.bytes : Int) * (c : Int) > 2 ^ 48) := by
    have : (ei.bytes : Int) * (c : Int) = ((c * ei.bytes : Nat) : Int) := by rw [Int.natCast_mul, Int.mul_comm]
    rw [this]; omega
  have g3 : ¬ ((a : Int) < 0) := by omega
  have g4 : ¬ ((a : Int) > (c : Int)) := by omega
  have g5 : ¬ (c * ei.bytes > roomBytes) := by unfold roomBytes; omega
  simp only [Instr.makeSlice, Sem.run_bind, run_und ht, Result.andThen_ok, Go.asInt, asIntOf, Sem.run_pure, run_info hei, w1, w2, g1, g2, g3, g4, decide_false, Bool.or_self, Bool.false_eq_true, if_false, Int.toNat_natCast, askRoom, g5, run_size hei]
  by_cases h0 : c * ei.size = 0
  · simp only [h0, if_true, Sem.run_pure, Result.andThen_ok]
    simp [run_newRow, show Array.range 0 = #[] from rfl]
  · simp only [h0, if_false, Sem.run_bind, run_zero hei hz, Sem.run_pure, Result.andThen_ok, run_newRow]
theorem modify_push (a : Array Obj) (o : Obj) (f : Obj → Obj) : (a.push o).modify a.size f = a.push (f o) := by
  apply Array.ext_getElem?
  intro i
  rw [Array.getElem?_modify]
  by_cases hi : a.size = i
  · subst hi; simp
  · rw [if_neg hi]
    simp only [Array.getElem?_push]
    rw [if_neg (fun h => hi h.symm), if_neg (fun h => hi h.symm)]
theorem strBytes_run {et : TypeId} {sb : ByteArray} {cap : Nat} (hcap : (Question.appendCap sb.size 0 et).cut (w.tape w.drawn (.appendCap sb.size 0 et)) = cap)
    (htot : (sb.data.map (fun b => Value.int .u8 (b.toNat : Int)) ++ Array.replicate (cap - sb.size) (Value.int .u8 0)).size = cap) :
    (Conv.stringToBytes et sb).run P w = .ok (.slice (some ⟨w.heap.size, 0, none⟩) sb.size cap)
      { w with drawn := w.drawn + 1, heap := w.heap.push (.cells (sb.data.map (fun b => Value.int .u8 (b.toNat : Int)) ++ Array.replicate (cap - sb.size) (Value.int .u8 0)) et (cap, cap + 1)) } := by
  have hch : (choose (.appendCap sb.size 0 et)).run P w = .ok cap { w with drawn := w.drawn + 1 } := by
    simp only [choose, Sem.run, Question.forced, Bool.false_eq_true, if_false, hcap]
  unfold Conv.stringToBytes
  simp only [Sem.run_bind, hch, Result.andThen_ok, run_newRow]
  generalize hc : (sb.data.map (fun b => Value.int .u8 (b.toNat : Int)) ++ Array.replicate (cap - sb.size) (Value.int .u8 0)) = c at *
  simp only [markStringish, Sem.run_bind, run_shape, World.shape?, World.alloc, Array.getElem?_push_size, Result.andThen_ok, run_freeze, World.freeze, Nat.succ_ne_zero, if_false, Sem.run_pure, htot]
  congr 1
  rw [modify_push]
  simp
theorem relO_mkVar {bl : Bool} {t : TypeId} {l : AV} {c : Array Value} (hr : relL ρ l c.toList) (ho : okCs l = true) (hf : fitO (mkVar bl t l) = true) : relO ρ (0, 0) (mkVar bl t l) (some (.cells c t (0, 0))) 0 := by
  have hlen := relL_len (chain_of_relL hr) hr
  cases bl with
  | false => exact relO_chain hr ho (by simpa [mkVar, br, fitO] using hf)
  | true => exact var_relO (relO_chain hr ho (by simpa [mkVar, br, fitO] using hf)) (by simpa using hlen.symm)
section
variable (hi : Inv ρ h n w) (hne : rr ≠ .fail)
include hi hne
theorem val_faddr {s : TypeId} {fs : Array Field} {fi : Nat} {f : Field} {ft : TypeInfo} {x : AV} {rx : Value} (hx : rel ρ x rx) (hs : P.underlying s = some (.struct fs)) (hf : fs[fi]? = some f) (hft : P.info? f.type = some ft) (hz : ft.size ≠ 0)
    (e : (asPtr x fun b o => frc (o + f.offset) fun o => k (.ptr b o) h n) = rr) : Val P (Instr.fieldAt s rx fi) ρ h n w k rr := by
  obtain ⟨b, off, rfl, e1⟩ := asPtr_inv e hne
  rw [frc_eq] at e1
  obtain ⟨r, o, h1, rfl⟩ := ptr_inv hx
  refine .same hi e1 ?_ (rel_ptr h1)
  simp only [Instr.fieldAt, Sem.run_bind, run_und hs, Result.andThen_ok, hf, Instr.sureAddr, Sem.run_pure, fieldPlace, run_size hft, hz, if_false]
  rw [add_none, Nat.add_assoc]
theorem val_iaddrA {t et : TypeId} {m : Nat} {ei : TypeInfo} {x y : AV} {rx ry : Value} (hx : rel ρ x rx) (hy : rel ρ y ry) (ht : P.underlying t = some (.array m et)) (hei : P.info? et = some ei)
    (e : (asPtr x fun b off => idx y m fun i => frc (off + i * ei.size) fun o => k (.ptr b o) h n) = rr) : Val P (Instr.indexAt t rx ry) ρ h n w k rr := by
  obtain ⟨b, off, rfl, e1⟩ := asPtr_inv e hne
  obtain ⟨kd, u, rfl, h1, h2, e2⟩ := idx_inv hi hne e1
  rw [frc_eq] at e2
  obtain ⟨j, rfl, rfl⟩ := nat_inv hi hne hy h1
  obtain ⟨r, o, h3, rfl⟩ := ptr_inv hx
  refine .same hi e2 ?_ (rel_ptr h3)
  have h0 : (0 : Int) ≤ (u : Int) ∧ (u : Int) < (m : Int) := by omega
  simp only [Instr.indexAt, Sem.run_bind, asIntOf, Sem.run_pure, Result.andThen_ok, run_und ht, Instr.sureAddr, h0, and_self, if_true, run_size hei, Int.toNat_natCast]
  rw [add_none, Nat.add_assoc]
theorem val_iaddr {t et : TypeId} {ei : TypeInfo} {x y : AV} {rx ry : Value} (hx : rel ρ x rx) (hy : rel ρ y ry) (ht : P.underlying t = some (.slice et)) (hei : P.info? et = some ei)
    (e : (asSl x fun b off len => idx y len fun i => frc (off + i * ei.size) fun o => k (.ptr b o) h n) = rr) : Val P (Instr.indexAt t rx ry) ρ h n w k rr := by
  obtain ⟨b, off, len, cap, ex, rfl, e1⟩ := asSl_inv e hne
  obtain ⟨kd, u, rfl, h1, h2, e2⟩ := idx_inv hi hne e1
  rw [frc_eq] at e2
  obtain ⟨j, rfl, rfl⟩ := nat_inv hi hne hy h1
  simp only [rel] at hx
  obtain ⟨r, o, f, c, h3, rfl, h4, h5, h6, h7, _⟩ := hx
  have hf : f = o + off := by omega
  subst hf
  refine .same hi e2 ?_ (rel_ptr h3)
  have h0 : (0 : Int) ≤ (u : Int) ∧ (u : Int) < (len : Int) := by omega
  simp only [Instr.indexAt, Sem.run_bind, asIntOf, Sem.run_pure, Result.andThen_ok, run_und ht, h0, and_self, if_true, run_size hei, Int.toNat_natCast]
  rw [add_none, Nat.add_assoc]
theorem val0_load1 {t : TypeId} {d : TypeDesc} {x : AV} {rx : Value} (hx : rel ρ x rx) (ht : P.underlying t = some d) (hd : aggD d = false) (e : (asPtr x fun b off => rdO off (getO h b) h n k) = rr) :
    Val0 P (Instr.loadAt t rx) ρ h n w k rr := by
  obtain ⟨b, off, rfl, e1⟩ := asPtr_inv e hne
  obtain ⟨r, o, h1, rfl⟩ := ptr_inv hx
  have hrun : ∀ v, w.cell? ⟨r, o + off, none⟩ = some v → (Instr.loadAt t (.pointer (some ⟨r, o + off, none⟩))).run P w = .ok v w := fun v hv => by
    simp only [Instr.loadAt, Sem.run_bind, Instr.sureAddr, Sem.run_pure, Result.andThen_ok, loadVar, run_isAgg ht, hd, Bool.false_eq_true, if_false, run_load, hv]
  cases ho : getO h b with
  | none => rw [ho] at e1; exact absurd e1.symm hne
  | some ob =>
    rw [ho] at e1
    obtain ⟨r', base, h2, h3⟩ := hi.obj b _ ho
    rw [h1] at h2; cases h2
    cases ob with
    | map _ => exact absurd e1.symm hne
    | rowb _ _ _ _ => exact absurd e1.symm hne
    | var ty m tr =>
      obtain ⟨h4, e2⟩ := br_fail e1 hne
      rw [Nat.blt_eq] at h4
      obtain ⟨_, h3', _⟩ := relO_var h3
      obtain ⟨c, et, fz, g1, g2, g3⟩ := relO_cells h3'
      obtain ⟨v, g4, g5, _⟩ := g3 off h4
      exact .of e2 (hrun v (by rw [cell_of g1]; exact g4)) g5
    | cells m es tr =>
      obtain ⟨h4, e2⟩ := br_fail e1 hne
      rw [Nat.blt_eq] at h4
      obtain ⟨c, et, fz, g1, g2, g3⟩ := relO_cells h3
      obtain ⟨v, g4, g5, _⟩ := g3 off h4
      exact .of e2 (hrun v (by rw [cell_of g1]; exact g4)) g5
    | bytes m z =>
      obtain ⟨h4, e2⟩ := br_fail e1 hne
      rw [Nat.blt_eq] at h4
      rw [frc_eq] at e2
      obtain ⟨c, et, fz, l, g1, g2, g3, g4⟩ := relO_bytes h3
      obtain ⟨g5, _⟩ := g4 off (by rw [g3.1]; exact h4)
      refine .of e2 (hrun _ (by rw [cell_of g1]; exact g5)) ?_
      rw [byteAt_eq g3 h4]
      have hlt2 : (l[off]'(by rw [g3.1]; exact h4)).toNat < 256 := (l[off]'(by rw [g3.1]; exact h4)).toNat_lt
      have := rel_int (ρ := ρ) (kd := .u8) (in_nat (k := .u8) (m := (l[off]'(by rw [g3.1]; exact h4)).toNat) (by simpa [kindN, hiN] using hlt2))
      rwa [enc_nat (k := .u8) (by simpa [kindN, moN] using hlt2)] at this
theorem val0_loadN {t : TypeId} {d : TypeDesc} {i : TypeInfo} {x : AV} {rx : Value} (hx : rel ρ x rx) (ht : P.underlying t = some d) (hd : aggD d = true) (hin : P.info? t = some i) (e : (asPtr x fun b off => rdNO off i.size (getO h b) h n k) = rr) :
    Val0 P (Instr.loadAt t rx) ρ h n w k rr := by
  obtain ⟨b, off, rfl, e1⟩ := asPtr_inv e hne
  obtain ⟨r, o, h1, rfl⟩ := ptr_inv hx
  cases ho : getO h b with
  | none => rw [ho] at e1; exact absurd e1.symm hne
  | some ob =>
    rw [ho] at e1
    obtain ⟨r', base, h2, h3⟩ := hi.obj b _ ho
    rw [h1] at h2; cases h2
    cases ob <;> try exact absurd e1.symm hne
    rename_i m es tr
    obtain ⟨h4, e2⟩ := br_fail e1 hne
    rw [Nat.ble_eq] at h4
    obtain ⟨c, et, fz, g1, g2, g3⟩ := relO_cells h3
    have hsz : o + off + i.size ≤ c.size ∨ i.size = 0 := by
      rcases Nat.eq_zero_or_pos i.size with e0 | e0
      · right; exact e0
      · left; exact cells_fit (q := fun _ => _) g3 e0 h4
    rcases hsz with hsz | hsz
    · have hl := loadCells_run (P := P) g1 hsz
      have hcr := cellsFrom_rel (ρ := ρ) (t := tr) (c := c) i.size off (o + off) hsz (fun j hj => by
        obtain ⟨v, g4, g5, g6, _⟩ := g3 (off + j) (by omega)
        exact ⟨v, by rw [← g4]; congr 1; omega, g5, g6⟩)
      refine .of e2 (rv := .agg (c.extract (o + off) (o + off + i.size))) ?_ (by simp only [rel]; exact ⟨_, rfl, hcr⟩)
      simp only [Instr.loadAt, Sem.run_bind, Instr.sureAddr, Sem.run_pure, Result.andThen_ok, loadVar, run_isAgg ht, hd, if_true, run_size hin, hl]
    · rw [hsz] at e2
      refine .of e2 (rv := .agg #[]) ?_ (by simp only [rel]; exact ⟨_, rfl, by simp [cellsFrom, relL], rfl⟩)
      simp only [Instr.loadAt, Sem.run_bind, Instr.sureAddr, Sem.run_pure, Result.andThen_ok, loadVar, run_isAgg ht, hd, if_true, run_size hin, hsz, loadCells, loadCellsFrom]
theorem val_load1 {t : TypeId} {d : TypeDesc} {x : AV} {rx : Value} (hx : rel ρ x rx) (ht : P.underlying t = some d) (hd : aggD d = false) (e : (asPtr x fun b off => rdO off (getO h b) h n k) = rr) :
    Val P (Instr.loadAt t rx) ρ h n w k rr := (val0_load1 hi hne hx ht hd e).val hi
theorem val_loadN {t : TypeId} {d : TypeDesc} {i : TypeInfo} {x : AV} {rx : Value} (hx : rel ρ x rx) (ht : P.underlying t = some d) (hd : aggD d = true) (hin : P.info? t = some i) (e : (asPtr x fun b off => rdNO off i.size (getO h b) h n k) = rr) :
    Val P (Instr.loadAt t rx) ρ h n w k rr := (val0_loadN hi hne hx ht hd hin e).val hi
theorem unt_store {t : TypeId} {i : TypeInfo} {x y : AV} {rx ry : Value} (hx : rel ρ x rx) (hy : rel ρ y ry) (hin : P.info? t = some i)
    (e : (asPtr x fun b off => br (Nat.beq (lenC (cellsA y)) i.size) (br (okCs (cellsA y)) (wrO b off (cellsA y) (getO h b) h n k) .fail) .fail) = rr) : Unt P (Instr.storeAt t rx ry) ρ h n w k rr := by
  obtain ⟨b, off, rfl, e1⟩ := asPtr_inv e hne
  obtain ⟨r, o, h1, rfl⟩ := ptr_inv hx
  obtain ⟨h2, e2⟩ := br_fail e1 hne
  obtain ⟨h3, e3⟩ := br_fail e2 hne
  rw [Nat.beq_eq] at h2
  have hc := rel_cells h3 hy
  obtain ⟨h', w', g1, g2, g3⟩ := wr_run (P := P) hi hne h1 hc h3 e3
  have hl := relL_len (chain_of_relL hc) hc
  refine ⟨h', n, ρ, w', g1, ?_, g3⟩
  have hsz : ry.cells.size = i.size := by rw [← h2, hl]; simp
  simp only [Instr.storeAt, Sem.run_bind, Instr.sureAddr, Sem.run_pure, Result.andThen_ok, storeVar, run_size hin, hsz, ne_eq, not_true_eq_false, if_false]
  simpa using g2
theorem val_new {bl : Bool} {t : TypeId} {i : TypeInfo} {z : Value} {l : AV} (hin : P.info? t = some i) (hz : i.zero = some z) (hl : relL ρ l z.cells.toList) (ho : okCs l = true)
    (e : (alloc (mkVar bl t l) h n fun h' m => k (.ptr n 0) h' m) = rr) : Val P (Instr.alloc t true (.tuple #[])) ρ h n w k rr := by
  obtain ⟨e1, g⟩ := alloc_goes hi hne (o := .cells z.cells t) (y := (0, 0)) e (fun hf => relO_mkVar hl ho hf)
  refine ⟨_, _, _, _, _, _, e1, ?_, g, rel_ptr (Mp.ext_same _ _ _ _)⟩
  simp only [Instr.alloc, Sem.run_bind, run_zero hin hz, Result.andThen_ok, newVar, run_newRow, Sem.run_pure]
theorem val_newB {t : TypeId} {i : TypeInfo} {m : Nat} (hin : P.info? t = some i) (hz : i.zero = some (.agg (Array.replicate m (.int .u8 0))))
    (e : (alloc (.bytes m 0) h n fun h' j => k (.ptr n 0) h' j) = rr) : Val P (Instr.alloc t true (.tuple #[])) ρ h n w k rr := by
  obtain ⟨e1, g⟩ := alloc_goes hi hne (o := .cells (Array.replicate m (.int .u8 0)) t) e (fun hf => relO_bs (packs_zero m) (by simpa [fitO] using hf) (fun i hi => by simp at hi; simp [hi]) (.inl rfl))
  refine ⟨_, _, _, _, _, _, e1, ?_, g, rel_ptr (Mp.ext_same _ _ _ _)⟩
  simp only [Instr.alloc, Sem.run_bind, run_zero hin hz, Result.andThen_ok, newVar, Value.cells, run_newRow, Sem.run_pure]
theorem val_box {t : TypeId} {x : AV} {rx : Value} (hx : rel ρ x rx) (e : br (okCs (cellsA x)) (alloc (.cells (lenC (cellsA x)) 0 (listT (cellsA x) 0 .nil)) h n fun h' m => k (.ptr n 0) h' m) .fail = rr) : Val P (Instr.box t rx) ρ h n w k rr := by
  obtain ⟨h1, e0⟩ := br_fail e hne
  have hl := rel_cells h1 hx
  obtain ⟨e1, g⟩ := alloc_goes hi hne (o := .cells rx.cells t) (y := (0, 0)) e0 (fun hf => relO_chain hl h1 (by simpa [fitO] using hf))
  refine ⟨_, _, _, _, _, _, e1, ?_, g, rel_ptr (Mp.ext_same _ _ _ _)⟩
  simp only [Instr.box, Sem.run_bind, newVar, run_newRow, Result.andThen_ok, Sem.run_pure]
theorem val_mkMap {t : TypeId} (e : (alloc (.map []) h n fun h' m => k (.map n) h' m) = rr) : Val P (Instr.makeMap t none) ρ h n w k rr := by
  obtain ⟨e1, g⟩ := alloc_goes hi hne (o := .map #[] 0) (y := (0, 0)) e (fun _ => ⟨rfl, MapKept.stamped_empty 0, rfl, fun i hi => by simp at hi⟩)
  refine ⟨_, _, _, _, _, .map (some w.heap.size), e1, ?_, g, by simp only [rel]; exact ⟨_, Mp.ext_same _ _ _ _, rfl⟩⟩
  simp [Instr.makeMap]
theorem rel_new {a c : Nat} {s : Nat} {y : Nat × Nat} (hac : a ≤ c) : rel (ρ.ext n (s, 0) y) (.sl n 0 a c true) (.slice (some ⟨s, 0, none⟩) a c) := by
  simp only [rel]
  exact ⟨s, 0, 0, c, Mp.ext_same _ _ _ _, rfl, hac, Nat.le_refl _, fun _ => rfl, .inl rfl, fun h => by cases h⟩
theorem val_mkSl {t et : TypeId} {ei : TypeInfo} {ed : TypeDesc} {z : Value} {l : AV} {x y : AV} {rx ry : Value} (hx : rel ρ x rx) (hy : rel ρ y ry) (ht : P.underlying t = some (.slice et)) (hei : P.info? et = some ei) (hz : ei.zero = some z)
    (hl : relL ρ l z.cells.toList) (ho : okCs l = true) (hls : lenC l = ei.size) (e : mkSlA ei.bytes (fun c => .cells (c * ei.size) ei.size (zeroT l ei.size c)) x y h n k = rr) : Val P (Instr.makeSlice t rx ry) ρ h n w k rr := by
  obtain ⟨a, c, rfl, rfl, e1⟩ := int2_inv e hne
  obtain ⟨h1, e2⟩ := br_fail e1 hne
  obtain ⟨h2, e3⟩ := br_fail e2 hne
  obtain ⟨h3, e4⟩ := br_fail e3 hne
  rw [Nat.ble_eq] at h1 h3
  rw [Nat.blt_eq] at h2
  have ha := nat_inv hi hne hx (by simp only [hiN]; omega)
  have hc := nat_inv hi hne hy (by simp only [hiN]; omega)
  obtain ⟨j1, hj1, rfl⟩ := ha
  obtain ⟨j2, hj2, rfl⟩ := hc
  simp only [newSl] at e4
  obtain ⟨e5, g⟩ := alloc_goes hi hne (o := .cells ((Array.range (c * ei.size)).map (z.cells[· % z.cells.size]!)) et) e4 (fun hf => relO_zero hl ho hls (by simpa [fitO] using hf))
  refine ⟨_, _, _, _, _, _, e5, ?_, g, rel_new hi hne h1⟩
  exact makeSlice_run ht hei hz h1 h2 h3 (by rw [← hls, relL_len (chain_of_relL hl) hl]; simp)
theorem val_mkBs {t et : TypeId} {ei : TypeInfo} {x y : AV} {rx ry : Value} (hx : rel ρ x rx) (hy : rel ρ y ry) (ht : P.underlying t = some (.slice et)) (hei : P.info? et = some ei) (hz : ei.zero = some (.int .u8 0))
    (hs : ei.size = 1) (hb : ei.bytes = 1) (e : mkSlA 1 (fun c => .bytes c 0) x y h n k = rr) : Val P (Instr.makeSlice t rx ry) ρ h n w k rr := by
  obtain ⟨a, c, rfl, rfl, e1⟩ := int2_inv e hne
  obtain ⟨h1, e2⟩ := br_fail e1 hne
  obtain ⟨h2, e3⟩ := br_fail e2 hne
  obtain ⟨h3, e4⟩ := br_fail e3 hne
  rw [Nat.ble_eq] at h1 h3
  rw [Nat.blt_eq] at h2
  obtain ⟨j1, hj1, rfl⟩ := nat_inv hi hne hx (by simp only [hiN]; omega)
  obtain ⟨j2, hj2, rfl⟩ := nat_inv hi hne hy (by simp only [hiN]; omega)
  simp only [newSl] at e4
  obtain ⟨e5, g⟩ := alloc_goes hi hne (o := .cells ((Array.range (c * 1)).map ((Value.int .u8 0).cells[· % (Value.int .u8 0).cells.size]!)) et) e4 (fun hf => relO_zeroB rfl (by simpa [fitO] using hf))
  refine ⟨_, _, _, _, _, _, e5, ?_, g, rel_new hi hne h1⟩
  have := makeSlice_run (P := P) (w := w) (j1 := j1) (j2 := j2) ht hei hz h1 h2 (by rw [hb]; exact h3) (by rw [hs]; rfl)
  rw [hs] at this
  exact this
theorem val_nilck {x : AV} {rx : Value} (hx : rel ρ x rx) (e : nilckA x h n k = rr) : (match rx with
    | .pointer none | .nilIface | .nilFunc => False
    | .func (.method _) _ _ => False
    | _ => True) ∧ k x h n = rr := by
  cases x <;> try exact absurd e.symm hne
  case ptr => obtain ⟨r, o, _, rfl⟩ := ptr_inv hx; exact ⟨trivial, e⟩
  case iface => simp only [rel] at hx; obtain ⟨_, rfl, _⟩ := hx; exact ⟨trivial, e⟩
  case func => simp only [rel] at hx; obtain ⟨_, rfl, _⟩ := hx; exact ⟨trivial, e⟩
theorem val_strToBs {s d et : TypeId} {x : AV} {rx : Value} (hx : rel ρ x rx) (hs : P.underlying s = some .string) (hd : P.underlying d = some (.slice et)) (he : P.underlying et = some (.int .u8)) (e : strToBsA x h n k = rr) : Val P (convert s d rx) ρ h n w k rr := by
  cases x <;> try exact absurd e.symm hne
  rename_i m y
  simp only [rel] at hx
  obtain ⟨sb, rfl, hp⟩ := hx
  simp only [strToBsA] at e
  generalize hcap : (Question.appendCap sb.size 0 et).cut (w.tape w.drawn (.appendCap sb.size 0 et)) = cap
  have hge : sb.size ≤ cap := by rw [← hcap]; simp only [Question.cut]; omega
  have hsz : sb.size = m := by rw [Lib.size_eq, hp.1]
  have hcell : ∀ i (hi : i < sb.data.toList.length), (sb.data.map (fun b => Value.int .u8 (b.toNat : Int)) ++ Array.replicate (cap - sb.size) (Value.int .u8 0))[i]? = some (.int .u8 ((sb.data.toList[i]'hi).toNat : Int)) := fun i hi => by
    rw [Array.getElem?_append_left (by simpa using hi)]
    have hi' : i < sb.data.size := by simpa using hi
    rw [Array.getElem?_map, Array.getElem?_eq_getElem hi']
    simp
  have htot : (sb.data.map (fun b => Value.int .u8 (b.toNat : Int)) ++ Array.replicate (cap - sb.size) (Value.int .u8 0)).size = cap := by
    have : sb.data.size = sb.size := rfl
    simp; omega
  obtain ⟨h1, h2, h3⟩ := alloc_inv e hne
  have hpush : Goes ρ h n w (ρ.ext n (w.heap.size, 0) (1, cap)) (setO h n (.bytes m y)) (n + 1)
      ({ w with drawn := w.drawn + 1, heap := w.heap.push (.cells (sb.data.map (fun b => Value.int .u8 (b.toNat : Int)) ++ Array.replicate (cap - sb.size) (Value.int .u8 0)) et (cap, cap + 1)) }) :=
    hi.push h1 rfl (by have := relO_bs (ρ := ρ) (e := et) (fz := (cap, cap + 1)) hp (by simpa [fitO] using h2) hcell (.inr (by rw [htot]; exact Nat.le_refl _)); rwa [htot] at this)
  refine ⟨_, _, _, _, _, .slice (some ⟨w.heap.size, 0, none⟩) m cap, h3, ?_, hpush, ?_⟩
  · have hconv : (convert s d (.string sb)).run P w = (Conv.stringToBytes et sb).run P w := by
      simp only [convert, Sem.run_bind, run_und hs, run_und hd, run_und he, Result.andThen_ok]
    rw [hconv, ← hsz]
    exact strBytes_run (by rw [hcap]) htot
  · simp only [rel]
    refine ⟨w.heap.size, 0, 0, cap, Mp.ext_same _ _ _ _, rfl, Nat.le_refl _, by omega, ?_, .inl rfl, fun _ => .inr ?_⟩
    · intro h; cases h
    · rw [Mp.ext_sameG]; simp
end
end
end
end Go.VE
