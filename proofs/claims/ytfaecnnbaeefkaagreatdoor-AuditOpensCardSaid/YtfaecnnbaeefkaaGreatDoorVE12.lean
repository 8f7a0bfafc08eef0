/- The evaluator, part 12: definitions and their laws, over any program. No condition. -/
import Derived.Laws.BytesString
import Derived.Test.YtfaecnnbaeefkaaGreatDoorVE11
set_option linter.all false
namespace Go.VE
noncomputable section
open Go
section
variable {P : Program} {tb : Tb} {o : Oper}
theorem wp_enter {a : Act} {ρ : Mp} {h : H} {n : Nat} {w : World} {k : K} {rr : RR} {Q : Exit → Act → World → Prop} {f : Nat} {as : Array Value} (hx : (execOp a.eval o).run P w = .ok (.enter f as) w) (hcl : Calls P f as w (PostE ρ h n w k rr)) :
    o.wp P a w (After ρ h n w k rr a o.dst) Q := by
  unfold Oper.wp
  rw [hx]
  refine Calls.mono hcl fun ex w' he => ?_
  obtain ⟨rv, rfl, hp⟩ := he
  exact ⟨rv, rfl, hp⟩
theorem wp_law {a : Act} {ρ : Mp} {h : H} {n : Nat} {w : World} {k : K} {rr : RR} {Q : Exit → Act → World → Prop} {f : Nat} {args : List AV} {as : List Value} (hl : CallLaw P f args h n k rr) (hi : Inv ρ h n w) (ha : relS ρ args as)
    (hx : (execOp a.eval o).run P w = (callFunc f as.toArray).run P w) : o.wp P a w (After ρ h n w k rr a o.dst) Q := by
  rcases hl with ⟨hcl, hcall⟩ | hext
  · exact wp_enter (hx.trans (callFunc_run hcl _ _)) (hcall ρ w as hi ha)
  · obtain ⟨rv, w', h1, h2⟩ := hext ρ w as hi ha
    unfold Oper.wp
    rw [hx, h1]
    exact ⟨rv, rfl, h2⟩
theorem evL_rel {ρ : Mp} {ds : List (Option Nat)} {ls : List AV} {e : Env} {a : Act} : ∀ {xs : List Operand} {ss : List Sx}, lowSs ds xs = some ss → (∀ x ∈ xs, Fits ρ ds ls e a x) → relS ρ (evL ss ls e) (xs.map a.eval)
  | [], ss, h, _ => by cases h; simp only [evL, relS, List.map_nil]
  | x :: xs, ss, h, hf => by
    simp only [lowSs] at h
    cases h1 : lowS ds x with
    | none => rw [h1] at h; cases h
    | some s =>
      cases h2 : lowSs ds xs with
      | none => rw [h1, h2] at h; cases h
      | some l =>
        rw [h1, h2] at h; cases h
        simp only [evL, relS, List.map_cons]
        exact ⟨_, _, rfl, hf x List.mem_cons_self s h1, evL_rel h2 fun y hy => hf y (List.mem_cons_of_mem _ hy)⟩
theorem relS_append {ρ : Mp} : ∀ {l m : List AV} {vs us : List Value}, relS ρ l vs → relS ρ m us → relS ρ (l ++ m) (vs ++ us)
  | [], m, vs, us, h1, h2 => by simp only [relS] at h1; subst h1; exact h2
  | a :: l, m, vs, us, h1, h2 => by
    simp only [relS] at h1
    obtain ⟨v, r, rfl, g1, g2⟩ := h1
    simp only [List.cons_append, relS]
    exact ⟨v, r ++ us, rfl, g1, relS_append g2 h2⟩
theorem ok_call {c : Call} (hop : o.op = .call c) (hcal : ∃ f, c.callee = .value f) : OpOk P tb o := by
  intro ds ls e a ρ h n w call k rr Q hc hf hi hr hne
  obtain ⟨f, hcf⟩ := hcal
  rw [hop] at hr
  simp only [lowOp] at hr
  have hops : ∀ x, x ∈ c.args.toList ∨ x = f → x ∈ o.op.operands := by
    intro x hx
    rw [hop]
    rcases hx with hx | rfl
    · simp only [Op.operands, Call.operands, hcf]; simp [Array.mem_toList_iff.1 hx]
    · simp only [Op.operands, Call.operands, hcf]; simp
  cases hs : lowSs ds c.args.toList with
  | none => rw [hs] at hr; exact absurd hr.symm hne
  | some ss =>
    rw [hs] at hr
    simp only at hr
    rw [hcf] at hr
    have hrel := evL_rel (ρ := ρ) (ls := ls) (e := e) (a := a) hs (fun x hx => hf x (hops x (.inl hx)))
    have hfr : ∀ u, lowS ds f = some u → oCallV u ss call ls e h n k = rr → o.wp P a w (After ρ h n w k rr a o.dst) Q := by
      intro u hu hk
      have hk' : callVA call (u ls e) (evL ss ls e) h n k = rr := hk
      have hfv := hf f (hops f (.inr rfl)) u hu
      generalize u ls e = v at hfv hk'
      cases v <;> try exact absurd hk'.symm hne
      rename_i g caps
      simp only [rel] at hfv
      obtain ⟨cs, hfe, hcaps⟩ := hfv
      refine wp_law (hc g _ h n k rr hk' hne) hi (relS_append hrel (relS_of hcaps)) ?_
      have hx : (execOp a.eval o).run P w = (callFunc g (c.args.map a.eval ++ cs)).run P w := by
        simp [execOp, hop, resolve, hcf, hfe, Deferred.ofValue, invoke]
      rw [hx]
      congr 2
      apply Array.ext'
      simp
    cases f with
    | func g =>
      have hk' : call g (evL ss ls e) h n k = rr := hr
      refine hfr (sC (.func g .nl)) rfl ?_
      show callVA call (.func g .nl) (evL ss ls e) h n k = rr
      simp only [callVA, toL, List.append_nil]
      exact hk'
    | _ =>
      obtain ⟨u, hu, hk⟩ := ok1_inv hr hne
      exact hfr u hu hk
end
end
end Go.VE
namespace Go.VE
noncomputable section
open Go
section
variable {P : Program} {tb : Tb} {o : Oper}
theorem hasM_spec {name : String} : ∀ {l : List Method} {f : Nat} {pr : Bool}, hasM l name = some (f, pr) → ∃ m, l.find? (·.name == name) = some m ∧ m.path.isEmpty = true ∧ m.func = some (f, pr)
  | [], _, _, h => by cases h
  | m :: l, f, pr, h => by
    simp only [hasM] at h
    cases hn : m.name == name with
    | true =>
      rw [hn, cond_true] at h
      cases hp : m.path.isEmpty with
      | true => rw [hp, cond_true] at h; exact ⟨m, by simp [List.find?, hn], hp, h⟩
      | false => rw [hp, cond_false] at h; cases h
    | false =>
      rw [hn, cond_false] at h
      obtain ⟨m', g1, g2, g3⟩ := hasM_spec h
      exact ⟨m', by simp [List.find?, hn, g1], g2, g3⟩
theorem rows_spec {name : String} : ∀ {l : List TypeInfo} {k t f : Nat}, assocN t (methodRows tb name l k) = some f → ∃ i pr, l[t - k]? = some i ∧ k ≤ t ∧ hasM i.methods.toList name = some (f, pr) ∧
      okRecv (undOf tb.types i) pr = true
  | [], k, t, f, h => by cases h
  | i :: l, k, t, f, h => by
    have tail : assocN t (methodRows tb name l (k + 1)) = some f → ∃ i' pr, (i :: l)[t - k]? = some i' ∧ k ≤ t ∧ hasM i'.methods.toList name = some (f, pr) ∧ okRecv (undOf tb.types i') pr = true := fun h => by
      obtain ⟨i', pr, g1, g2, g3, g4⟩ := rows_spec h
      exact ⟨i', pr, by rw [show t - k = (t - (k + 1)) + 1 by omega, List.getElem?_cons_succ]; exact g1, by omega, g3, g4⟩
    simp only [methodRows] at h
    cases hm : hasM i.methods.toList name with
    | none => rw [hm] at h; exact tail h
    | some fp =>
      obtain ⟨f', pr⟩ := fp
      rw [hm] at h
      simp only at h
      cases hc : okRecv (undOf tb.types i) pr with
      | false => rw [hc, cond_false] at h; exact tail h
      | true =>
        rw [hc, cond_true] at h
        unfold assocN at h
        cases hb : Nat.beq t k with
        | true =>
          rw [hb] at h
          have := beq_n hb; subst this
          have : f' = f := by simpa [br] using h
          subst this
          exact ⟨i, pr, by simp, Nat.le_refl _, hm, hc⟩
        | false => rw [hb] at h; exact tail (by simpa [br] using h)
theorem promRows_spec {name : String} : ∀ {l : List (Nat × String × Nat)} {t f : Nat}, assocN t (promRows name l) = some f → (t, name, f) ∈ l
  | [], _, _, h => by cases h
  | (t', m, f') :: l, t, f, h => by
    simp only [promRows] at h
    cases hm : m == name with
    | false => rw [hm, cond_false] at h; exact List.mem_cons_of_mem _ (promRows_spec h)
    | true =>
      rw [hm, cond_true] at h
      have hmn : m = name := by simpa using hm
      subst hmn
      unfold assocN at h
      cases hb : Nat.beq t t' with
      | true =>
        rw [hb] at h
        have := beq_n hb; subst this
        have : f' = f := by simpa [br] using h
        subst this
        exact List.mem_cons_self
      | false => rw [hb] at h; exact List.mem_cons_of_mem _ (promRows_spec (by simpa [br] using h))
theorem ok_invoke {c : Call} {r : Operand} {name : String} (hT : TbOk P tb) (hop : o.op = .call c) (hcf : c.callee = .invoke r name) : OpOk P tb o := by
  intro ds ls e a ρ h n w call k rr Q hc hf hi hr hne
  rw [hop] at hr
  simp only [lowOp] at hr
  have hops : ∀ x, x ∈ c.args.toList ∨ x = r → x ∈ o.op.operands := by
    intro x hx
    rw [hop]
    rcases hx with hx | rfl
    · simp only [Op.operands, Call.operands, hcf]; simp [Array.mem_toList_iff.1 hx]
    · simp only [Op.operands, Call.operands, hcf]; simp
  cases hs : lowSs ds c.args.toList with
  | none => rw [hs] at hr; exact absurd hr.symm hne
  | some ss =>
    rw [hs] at hr
    simp only at hr
    rw [hcf] at hr
    have hrel := evL_rel (ρ := ρ) (ls := ls) (e := e) (a := a) hs (fun x hx => hf x (hops x (.inl hx)))
    obtain ⟨u, hu, hk⟩ := ok1_inv hr hne
    have hrv := hf r (hops r (.inr rfl)) u hu
    have hk' : invokeA call (promRows name tb.prom) (methodRows tb name tb.list 0) (u ls e) (evL ss ls e) h n k = rr := hk
    generalize u ls e = v at hrv hk'
    cases v <;> try exact absurd hk'.symm hne
    rename_i t v
    simp only [rel] at hrv
    obtain ⟨rv, hre, hrv⟩ := hrv
    simp only [invokeA] at hk'
    have h0 : (#[a.eval r] ++ c.args.map a.eval)[0]? = some (a.eval r) := by rw [Array.getElem?_append_left (by simp)]; rfl
    have hext : (#[a.eval r] ++ c.args.map a.eval).extract 1 (#[a.eval r] ++ c.args.map a.eval).size = c.args.map a.eval := by
      apply Array.ext'
      simp only [Array.toList_extract, Array.toList_append, Array.toList_map, Array.size_append, Array.size_map, List.size_toArray, List.length_cons, List.length_nil]
      simp [List.extract]
      rw [List.take_of_length_le (by simp)]
    cases hpr : assocN t (promRows name tb.prom) with
    | some f =>
      rw [hpr] at hk'
      simp only [invO] at hk'
      obtain ⟨a1, ha1, hk2⟩ : ∃ a1, v = .agg (.cons a1 .nl) ∧ call f (a1 :: evL ss ls e) h n k = rr := by
        unfold callP at hk'
        split at hk'
        · exact ⟨_, rfl, hk'⟩
        · exact absurd hk'.symm hne
      subst ha1
      simp only [rel] at hrv
      obtain ⟨cs, rfl, hcs, _⟩ := hrv
      simp only [relL] at hcs
      obtain ⟨rv1, _, hcs, hrv1, rfl⟩ := hcs
      have hcs' : cs = #[rv1] := by rw [← Array.toArray_toList (xs := cs), hcs]
      subst hcs'
      have hmeth := hT.prom t name f (promRows_spec hpr) rv1 w
      refine wp_law (hc f _ h n k rr hk2 hne) hi (show relS ρ (a1 :: evL ss ls e) (rv1 :: c.args.toList.map a.eval) by simp only [relS]; exact ⟨rv1, _, rfl, hrv1, hrel⟩) ?_
      have hcm : (callMethod (a.eval r) name (c.args.map a.eval)).run P w = (callFunc f (#[rv1] ++ c.args.map a.eval)).run P w := by
        rw [hre]
        simp only [callMethod, Sem.run_bind]
        have hprog : (program).run P w = .ok P w := rfl
        rw [hprog]
        simp only [Result.andThen_ok]
        rw [hmeth]
        rfl
      have hx : (execOp a.eval o).run P w = (callFunc f (#[rv1] ++ c.args.map a.eval)).run P w := by
        rw [← hcm]
        simp only [execOp, hop, resolve, hcf, Sem.run_bind, Sem.run_pure, Result.andThen_ok, invoke, h0, hext]
      rw [hx]
      congr 2
      apply Array.ext'
      simp
    | none =>
    rw [hpr] at hk'
    simp only [invO] at hk'
    cases hm : assocN t (methodRows tb name tb.list 0) with
    | none => rw [hm] at hk'; exact absurd hk'.symm hne
    | some f =>
      rw [hm] at hk'
      obtain ⟨i, pr, g1, _, g3, g4⟩ := rows_spec hm
      obtain ⟨m, m1, m2, m3⟩ := hasM_spec g3
      rw [Nat.sub_zero, hT.list] at g1
      have hinfo := hT.info t i g1
      have hund : undOf tb.types i ≠ .invalid := fun e => by rw [e] at g4; cases g4
      have hund2 := hT.und (t := t) (d := undOf tb.types i) (by unfold und; rw [g1]) hund
      refine wp_law (hc f _ h n k rr hk' hne) hi (show relS ρ (v :: evL ss ls e) (rv :: c.args.toList.map a.eval) by simp only [relS]; exact ⟨rv, _, rfl, hrv, hrel⟩) ?_
      have hmeth : ∀ fuel, (method (fuel + 1) t rv name).run P w = .ok (f, rv) w := by
        intro fuel
        have hp : m.path.toList = [] := by
          have := m2
          rw [Array.isEmpty_iff] at this
          rw [this]
        have hfind : i.methods.find? (·.name == name) = some m := by rw [← Array.find?_toList]; exact m1
        simp only [method, Sem.run_bind, run_info hinfo, Result.andThen_ok, hfind, hp, follow, Sem.run_pure, m3]
        have hrec : ∀ wr, (receiverAt t (.val rv) pr wr).run P w = .ok rv w := by
          intro wr
          simp only [receiverAt, Sem.run_bind, run_und hund2.1, Result.andThen_ok]
          revert g4
          cases undOf tb.types i <;> cases pr <;> intro g4 <;> first | (cases g4; done) | simp [Place.get]
        simp [hrec]
      have hext : (#[a.eval r] ++ c.args.map a.eval).extract 1 (#[a.eval r] ++ c.args.map a.eval).size = c.args.map a.eval := by
        apply Array.ext'
        simp only [Array.toList_extract, Array.toList_append, Array.toList_map, Array.size_append, Array.size_map, List.size_toArray, List.length_cons, List.length_nil]
        simp [List.extract]
        rw [List.take_of_length_le (by simp)]
      have h0 : (#[a.eval r] ++ c.args.map a.eval)[0]? = some (a.eval r) := by rw [Array.getElem?_append_left (by simp)]; rfl
      have hcm : (callMethod (a.eval r) name (c.args.map a.eval)).run P w = (callFunc f (#[rv] ++ c.args.map a.eval)).run P w := by
        rw [hre]
        simp only [callMethod, Sem.run_bind]
        have hprog : (program).run P w = .ok P w := rfl
        rw [hprog]
        simp only [Result.andThen_ok]
        have := hmeth (P.types.size + 99)
        rw [show P.types.size + Made.depth = P.types.size + 99 + 1 from rfl, this]
        rfl
      have hx : (execOp a.eval o).run P w = (callFunc f (#[rv] ++ c.args.map a.eval)).run P w := by
        rw [← hcm]
        simp only [execOp, hop, resolve, hcf, Sem.run_bind, Sem.run_pure, Result.andThen_ok, invoke, h0, hext]
      rw [hx]
      congr 2
      apply Array.ext'
      simp
end
end
end Go.VE
namespace Go.VE
noncomputable section
open Go
section
variable {P : Program} {tb : Tb} {o : Oper}
theorem ok_alloc {t : TypeId} (hT : TbOk P tb) (hop : o.op = .alloc t) (h8 : ∀ n e, und tb t = .array n e → isU8 tb e = true → ∃ i, tb.types.get (t + 1) = some i ∧ i.zero = some (.agg (Array.replicate n (.int .u8 0))))
    (ho : ∀ z, zeroL tb t = some z → okCs z = true) : OpOk P tb o := by
  intro ds ls e a ρ h n w call k rr Q hc hf hi hr hne
  rw [hop] at hr
  have gen : (match zeroL tb t with | some z => oNew (.cells (lenC z) 0 (listT z 0 .nil)) | none => oBad) call ls e h n k = rr → o.wp P a w (After ρ h n w k rr a o.dst) Q := fun h0 => by
    cases hz : zeroL tb t with
    | none => rw [hz] at h0; exact absurd h0.symm hne
    | some z =>
      rw [hz] at h0
      obtain ⟨i, zv, _, z2, z3, z4⟩ := zeroL_of hT hz (ho z hz)
      exact wp_val (s := Instr.alloc t true (.tuple #[])) (by simp only [execOp, hop]) (val_new hi hne z2 z3 (z4 ρ) (ho z hz) h0)
  by_cases harr : ∃ m e', und tb t = .array m e' ∧ isU8 tb e' = true
  · obtain ⟨m, e', hu, h1⟩ := harr
    simp only [lowOp] at hr
    rw [hu] at hr
    simp only at hr
    rw [h1, cond_true] at hr
    obtain ⟨i, g1, g2⟩ := h8 m e' hu h1
    exact wp_val (s := Instr.alloc t true (.tuple #[])) (by simp only [execOp, hop]) (val_newB hi hne (hT.info _ _ g1) g2 hr)
  · refine gen ?_
    simp only [lowOp] at hr
    cases hu : und tb t with
    | array m e' =>
      rw [hu] at hr
      simp only at hr
      have h1 : isU8 tb e' = false := by
        cases h1 : isU8 tb e' with
        | false => rfl
        | true => exact absurd ⟨m, e', hu, h1⟩ harr
      rw [h1, cond_false] at hr
      exact hr
    | _ => rw [hu] at hr; exact hr
theorem builtin_run {c : Call} {b : Builtin} {a : Act} {w : World} (hop : o.op = .call c) (hcb : c.callee = .builtin b) : ∃ consts, (execOp a.eval o).run P w = (builtin b c.argTypes o.type consts (c.args.map a.eval)).run P w := by
  refine ⟨?_, ?_⟩
  rotate_left
  · simp only [execOp, hop, resolve, hcb, Sem.run_bind, Sem.run_pure, Result.andThen_ok, invoke]
    rfl
theorem wp_valB {c : Call} {b : Builtin} {a : Act} {ρ : Mp} {h : H} {n : Nat} {w : World} {k : K} {rr : RR} {Q : Exit → Act → World → Prop} {s : Sem Value} (hop : o.op = .call c) (hcb : c.callee = .builtin b)
    (hs : ∀ consts, builtin b c.argTypes o.type consts (c.args.map a.eval) = (do pure (Next.value (← s)))) (hv : Val P s ρ h n w k rr) : o.wp P a w (After ρ h n w k rr a o.dst) Q := by
  obtain ⟨consts, hx⟩ := builtin_run (P := P) (a := a) (w := w) hop hcb
  rw [hs] at hx
  unfold Oper.wp
  obtain ⟨v, h', n', σ, w', rv, h1, h2, h3, h4⟩ := hv
  rw [hx]
  simp only [Sem.run_bind, h2, Result.andThen_ok, Sem.run_pure, Oper.upon]
  exact ⟨rv, rfl, v, h', n', σ, h1, h3, h4⟩
theorem argT {c : Call} {t : TypeId} (h0 : 0 < c.argTypes.size) (h : c.argTypes.getD 0 0 = t) : c.argTypes[0]? = some t := by
  rw [← h]; simp [h0]
theorem args1 {c : Call} {x : Operand} {a : Act} (h : c.args.toList = [x]) : c.args.map a.eval = #[a.eval x] := by
  apply Array.ext'; simp [h]
theorem args2 {c : Call} {x y : Operand} {a : Act} (h : c.args.toList = [x, y]) : c.args.map a.eval = #[a.eval x, a.eval y] := by
  apply Array.ext'; simp [h]
theorem mem_args {c : Call} {b : Builtin} {x : Operand} (hop : o.op = .call c) (hcb : c.callee = .builtin b) (h : x ∈ c.args.toList) : x ∈ o.op.operands := by
  rw [hop]; simp only [Op.operands, Call.operands, hcb]; simp [Array.mem_toList_iff.1 h]
theorem low_builtin {c : Call} {b : Builtin} {ds : List (Option Nat)} {call : CallT} {ls : List AV} {e : Env} {h : H} {n : Nat} {k : K} {rr : RR} (hop : o.op = .call c) (hcb : c.callee = .builtin b) (hr : lowOp ds tb o.op call ls e h n k = rr) (hne : rr ≠ .fail) :
    lowBuiltin ds tb b c.argTypes c.args.toList call ls e h n k = rr := by
  rw [hop] at hr
  simp only [lowOp] at hr
  cases hs : lowSs ds c.args.toList with
  | none => rw [hs] at hr; exact absurd hr.symm hne
  | some ss => rw [hs] at hr; simp only at hr; rw [hcb] at hr; exact hr
theorem ok_min {c : Call} (hT : TbOk P tb) (hop : o.op = .call c) (hcb : c.callee = .builtin .min ∨ c.callee = .builtin .max) : OpOk P tb o := by
  intro ds ls e a ρ h n w call k rr Q hc hf hi hr hne
  have key : ∀ (b : Builtin), c.callee = .builtin b → (b = .min ∨ b = .max) → o.wp P a w (After ρ h n w k rr a o.dst) Q := by
    intro b hb hmm
    have hr' := low_builtin hop hb hr hne
    unfold lowBuiltin at hr'
    cases hl : c.args.toList with
    | nil => rw [hl] at hr'; rcases hmm with rfl | rfl <;> exact absurd hr'.symm hne
    | cons x l =>
      cases l with
      | nil => rw [hl] at hr'; rcases hmm with rfl | rfl <;> exact absurd hr'.symm hne
      | cons y l =>
        cases l with
        | cons _ _ => rw [hl] at hr'; rcases hmm with rfl | rfl <;> exact absurd hr'.symm hne
        | nil =>
          rw [hl] at hr'
          have hx := mem_args hop hb (x := x) (by rw [hl]; simp)
          have hy := mem_args hop hb (x := y) (by rw [hl]; simp)
          rcases hmm with rfl | rfl
          · simp only at hr'
            cases hu : und tb (c.argTypes.getD 0 0) with
            | int kd =>
              rw [hu] at hr'
              obtain ⟨s, u, h1, h2, hk⟩ := ok2_inv hr' hne
              exact wp_valB hop hb (fun consts => by rw [args2 hl]; rfl) (val_min (ats := c.argTypes) (tt := o.type) hi hne (hf x hx s h1) (hf y hy u h2) (by rw [← upN_eq]; exact hk))
            | _ => rw [hu] at hr'; exact absurd hr'.symm hne
          · simp only at hr'
            cases hu : und tb (c.argTypes.getD 0 0) with
            | int kd =>
              rw [hu] at hr'
              obtain ⟨s, u, h1, h2, hk⟩ := ok2_inv hr' hne
              exact wp_valB hop hb (fun consts => by rw [args2 hl]; rfl) (val_max (ats := c.argTypes) (tt := o.type) hi hne (hf x hx s h1) (hf y hy u h2) (by rw [← upN_eq]; exact hk))
            | _ => rw [hu] at hr'; exact absurd hr'.symm hne
  rcases hcb with hb | hb
  · exact key _ hb (.inl rfl)
  · exact key _ hb (.inr rfl)
end
end
end Go.VE
namespace Go.VE
noncomputable section
open Go
section
variable {P : Program} {tb : Tb} {o : Oper}
theorem one_arg {c : Call} {b : Builtin} {ds : List (Option Nat)} {call : CallT} {ls : List AV} {e : Env} {h : H} {n : Nat} {k : K} {rr : RR} (hr : lowBuiltin ds tb b c.argTypes c.args.toList call ls e h n k = rr) (hne : rr ≠ .fail) (hb : b = .len ∨ b = .cap ∨ b = .clear) :
    ∃ x, c.args.toList = [x] := by
  unfold lowBuiltin at hr
  cases hl : c.args.toList with
  | nil => rw [hl] at hr; rcases hb with rfl | rfl | rfl <;> exact absurd hr.symm hne
  | cons x l =>
    cases l with
    | nil => exact ⟨x, rfl⟩
    | cons _ _ => rw [hl] at hr; rcases hb with rfl | rfl | rfl <;> exact absurd hr.symm hne
theorem two_args {c : Call} {b : Builtin} {ds : List (Option Nat)} {call : CallT} {ls : List AV} {e : Env} {h : H} {n : Nat} {k : K} {rr : RR} (hr : lowBuiltin ds tb b c.argTypes c.args.toList call ls e h n k = rr) (hne : rr ≠ .fail) (hb : b = .append ∨ b = .copy) :
    ∃ x y, c.args.toList = [x, y] := by
  unfold lowBuiltin at hr
  cases hl : c.args.toList with
  | nil => rw [hl] at hr; rcases hb with rfl | rfl <;> exact absurd hr.symm hne
  | cons x l =>
    cases l with
    | nil => rw [hl] at hr; rcases hb with rfl | rfl <;> exact absurd hr.symm hne
    | cons y l =>
      cases l with
      | nil => exact ⟨x, y, rfl⟩
      | cons _ _ => rw [hl] at hr; rcases hb with rfl | rfl <;> exact absurd hr.symm hne
theorem ok_len {c : Call} (hT : TbOk P tb) (hop : o.op = .call c) (hcb : c.callee = .builtin .len) (h0 : 0 < c.argTypes.size) : OpOk P tb o := by
  intro ds ls e a ρ h n w call k rr Q hc hf hi hr hne
  have hr' := low_builtin hop hcb hr hne
  obtain ⟨x, hl⟩ := one_arg hr' hne (.inl rfl)
  rw [hl] at hr'
  simp only [lowBuiltin] at hr'
  have hx := mem_args hop hcb (x := x) (by rw [hl]; simp)
  have ht := argT h0 rfl
  have hs : ∀ consts, builtin .len c.argTypes o.type consts (c.args.map a.eval) = (do pure (Next.value (← Builtin.len_ c.argTypes o.type #[a.eval x]))) := fun consts => by rw [args1 hl]; rfl
  cases hu : und tb (c.argTypes.getD 0 0) with
  | string =>
    rw [hu] at hr'
    obtain ⟨s, h1, hk⟩ := ok1_inv hr' hne
    exact wp_valB hop hcb hs (val_lenS hi hne (hf x hx s h1) ht (hT.und hu (by simp)).1 hk)
  | slice et =>
    rw [hu] at hr'
    obtain ⟨s, h1, hk⟩ := ok1_inv hr' hne
    exact wp_valB hop hcb hs (val_lenSl hi hne (hf x hx s h1) ht (hT.und hu (by simp)).1 hk)
  | map kt et =>
    rw [hu] at hr'
    obtain ⟨s, h1, hk⟩ := ok1_inv hr' hne
    exact wp_valB hop hcb hs (val_lenM hi hne (hf x hx s h1) ht (hT.und hu (by simp)).1 hk)
  | array m et =>
    rw [hu] at hr'
    refine wp_valB hop hcb hs (val_lenC hi hne (m := m) ?_ hr')
    have ha : (#[a.eval x] : Array Value)[0]? = some (a.eval x) := rfl
    simp only [Builtin.len_, ht, ha, Sem.run_bind, run_und (hT.und hu (by simp)).1, Result.andThen_ok, Sem.run_pure]
  | pointer at' =>
    rw [hu] at hr'
    simp only at hr'
    cases hu2 : und tb at' with
    | array m et =>
      rw [hu2] at hr'
      refine wp_valB hop hcb hs (val_lenC hi hne (m := m) ?_ hr')
      have ha : (#[a.eval x] : Array Value)[0]? = some (a.eval x) := rfl
      simp only [Builtin.len_, ht, ha, Sem.run_bind, run_und (hT.und hu (by simp)).1, run_und (hT.und hu2 (by simp)).1, Result.andThen_ok, Sem.run_pure]
    | _ => rw [hu2] at hr'; exact absurd hr'.symm hne
  | _ => rw [hu] at hr'; exact absurd hr'.symm hne
theorem ok_cap {c : Call} (hT : TbOk P tb) (hop : o.op = .call c) (hcb : c.callee = .builtin .cap) (h0 : 0 < c.argTypes.size) : OpOk P tb o := by
  intro ds ls e a ρ h n w call k rr Q hc hf hi hr hne
  have hr' := low_builtin hop hcb hr hne
  obtain ⟨x, hl⟩ := one_arg hr' hne (.inr (.inl rfl))
  rw [hl] at hr'
  simp only [lowBuiltin] at hr'
  have hx := mem_args hop hcb (x := x) (by rw [hl]; simp)
  cases hu : und tb (c.argTypes.getD 0 0) with
  | slice et =>
    rw [hu] at hr'
    obtain ⟨s, h1, hk⟩ := ok1_inv hr' hne
    exact wp_valB hop hcb (fun consts => by rw [args1 hl]; rfl) (val_cap (tt := o.type) hi hne (hf x hx s h1) (argT h0 rfl) (hT.und hu (by simp)).1 hk)
  | _ => rw [hu] at hr'; exact absurd hr'.symm hne
theorem ok_clear {c : Call} (hT : TbOk P tb) (hop : o.op = .call c) (hcb : c.callee = .builtin .clear) (h0 : 0 < c.argTypes.size) : OpOk P tb o := by
  intro ds ls e a ρ h n w call k rr Q hc hf hi hr hne
  have hr' := low_builtin hop hcb hr hne
  obtain ⟨x, hl⟩ := one_arg hr' hne (.inr (.inr rfl))
  rw [hl] at hr'
  simp only [lowBuiltin] at hr'
  have hx := mem_args hop hcb (x := x) (by rw [hl]; simp)
  cases hu : und tb (c.argTypes.getD 0 0) with
  | map kt et =>
    rw [hu] at hr'
    obtain ⟨s, h1, hk⟩ := ok1_inv hr' hne
    exact wp_valB hop hcb (fun consts => by rw [args1 hl]; rfl) (val_clear (tt := o.type) hi hne (hf x hx s h1) (argT h0 rfl) (hT.und hu (by simp)).1 hk)
  | _ => rw [hu] at hr'; exact absurd hr'.symm hne
theorem ok_append {c : Call} (hT : TbOk P tb) (hop : o.op = .call c) (hcb : c.callee = .builtin .append) (h0 : c.argTypes.size = 2) (hni : ∀ k, und tb (c.argTypes.getD 1 0) ≠ .int k)
    (hz : ∀ et i zv, und tb (c.argTypes.getD 0 0) = .slice et → tb.types.get (et + 1) = some i → i.zero = some zv → zv.cells.size = i.size) : OpOk P tb o := by
  intro ds ls e a ρ h n w call k rr Q hc hf hi hr hne
  have hr' := low_builtin hop hcb hr hne
  obtain ⟨x, y, hl⟩ := two_args hr' hne (.inl rfl)
  rw [hl] at hr'
  simp only [lowBuiltin] at hr'
  have hx := mem_args hop hcb (x := x) (by rw [hl]; simp)
  have hy := mem_args hop hcb (x := y) (by rw [hl]; simp)
  have hat : c.argTypes = #[c.argTypes.getD 0 0, c.argTypes.getD 1 0] := by
    apply Array.ext
    · simp [h0]
    · intro i h1 h2
      simp at h2
      rcases i with _ | _ | i
      · simp [Array.getElem?_eq_getElem (show 0 < c.argTypes.size by omega)]
      · simp [Array.getElem?_eq_getElem (show 1 < c.argTypes.size by omega)]
      · omega
  cases hu : und tb (c.argTypes.getD 0 0) with
  | slice et =>
    rw [hu] at hr'
    simp only at hr'
    cases hg : tb.types.get (et + 1) with
    | none => rw [hg] at hr'; exact absurd hr'.symm hne
    | some i =>
      cases hzl : zeroL tb et with
      | none => rw [hg, hzl] at hr'; exact absurd hr'.symm hne
      | some z =>
        rw [hg, hzl] at hr'
        simp only at hr'
        have hzero : ∃ zv, i.zero = some zv := by
          unfold zeroL at hzl
          cases hza : zeroA tb et with
          | none => rw [hza] at hzl; cases hzl
          | some z' =>
            obtain ⟨i', zv, g1, _, g3, _⟩ := zeroA_of hT hza
            rw [hg] at g1; cases g1
            exact ⟨zv, g3⟩
        obtain ⟨zv, hzv⟩ := hzero
        have go : ok2 ds x y (oAppend i.size i.bytes) call ls e h n k = rr → (P.underlying (c.argTypes.getD 1 0) = some .string ∨ ∃ e', P.underlying (c.argTypes.getD 1 0) = some (.slice e')) → o.wp P a w (After ρ h n w k rr a o.dst) Q := fun h1 h2 => by
          obtain ⟨s, u, g1, g2, hk⟩ := ok2_inv h1 hne
          have hA : AppN P (c.argTypes.getD 0 0) (c.argTypes.getD 1 0) et i := ⟨(hT.und hu (by simp)).1, hT.info _ _ hg, h2⟩
          refine wp_valB hop hcb (s := Builtin.append_ #[c.argTypes.getD 0 0, c.argTypes.getD 1 0] o.type #[a.eval x, a.eval y]) (fun consts => ?_) (val_append hi hne hA hzv (hz et i zv hu hg hzv) (hf x hx s g1) (hf y hy u g2) hk)
          rw [args2 hl, ← hat]; rfl
        cases hu1 : und tb (c.argTypes.getD 1 0) with
        | int kd => exact absurd hu1 (hni kd)
        | string => rw [hu1] at hr'; exact go hr' (.inl (hT.und hu1 (by simp)).1)
        | slice e' => rw [hu1] at hr'; exact go hr' (.inr ⟨e', (hT.und hu1 (by simp)).1⟩)
        | _ => rw [hu1] at hr'; exact absurd hr'.symm hne
  | _ => rw [hu] at hr'; exact absurd hr'.symm hne
theorem ok_copy {c : Call} (hT : TbOk P tb) (hop : o.op = .call c) (hcb : c.callee = .builtin .copy) (h0 : 0 < c.argTypes.size) (hsz : ∀ et, und tb (c.argTypes.getD 0 0) = .slice et → und tb et ≠ .invalid ∧ size tb et = 1) : OpOk P tb o := by
  intro ds ls e a ρ h n w call k rr Q hc hf hi hr hne
  have hr' := low_builtin hop hcb hr hne
  obtain ⟨x, y, hl⟩ := two_args hr' hne (.inr rfl)
  rw [hl] at hr'
  simp only [lowBuiltin] at hr'
  have hx := mem_args hop hcb (x := x) (by rw [hl]; simp)
  have hy := mem_args hop hcb (x := y) (by rw [hl]; simp)
  cases hu : und tb (c.argTypes.getD 0 0) with
  | slice et =>
    rw [hu] at hr'
    obtain ⟨s, u, g1, g2, hk⟩ := ok2_inv hr' hne
    obtain ⟨i1, i2⟩ := hsz et hu
    obtain ⟨_, i, k1, k2⟩ := hT.und rfl i1
    rw [size_of k1] at i2 hk
    exact wp_valB hop hcb (fun consts => by rw [args2 hl]; rfl) (val_copy (tt := o.type) hi hne (argT h0 rfl) (hT.und hu (by simp)).1 k2 (hf x hx s g1) (hf y hy u g2) (fun _ _ _ => i2) hk)
  | _ => rw [hu] at hr'; exact absurd hr'.symm hne
end
end
end Go.VE
namespace Go.VE
noncomputable section
open Go
section
variable {P : Program} {tb : Tb} {o : Oper}
theorem ok_makeSlice {t : TypeId} {x y : Operand} (hT : TbOk P tb) (hop : o.op = .makeSlice t x y) (h8 : ∀ et i, und tb t = .slice et → tb.types.get (et + 1) = some i → isU8 tb et = true → i.zero = some (.int .u8 0) ∧ i.size = 1 ∧ i.bytes = 1)
    (ho : ∀ et i z, und tb t = .slice et → tb.types.get (et + 1) = some i → zeroL tb et = some z → okCs z = true ∧ lenC z = i.size) : OpOk P tb o := by
  intro ds ls e a ρ h n w call k rr Q hc hf hi hr hne
  rw [hop] at hr
  simp only [lowOp] at hr
  have hx : x ∈ o.op.operands ∧ y ∈ o.op.operands := by rw [hop]; simp [Op.operands]
  cases hu : und tb t with
  | slice et =>
    rw [hu] at hr
    simp only at hr
    cases hg : tb.types.get (et + 1) with
    | none => rw [hg] at hr; exact absurd hr.symm hne
    | some i =>
      cases hz : zeroL tb et with
      | none => rw [hg, hz] at hr; exact absurd hr.symm hne
      | some z =>
        rw [hg, hz] at hr
        simp only at hr
        cases h1 : isU8 tb et with
        | true =>
          rw [h1, cond_true] at hr
          obtain ⟨s, u, g1, g2, hk⟩ := ok2_inv hr hne
          obtain ⟨z1, z2, z3⟩ := h8 et i hu hg h1
          exact wp_val (by simp only [execOp, hop]) (val_mkBs hi hne (hf x hx.1 s g1) (hf y hx.2 u g2) (hT.und hu (by simp)).1 (hT.info _ _ hg) z1 z2 z3 hk)
        | false =>
          rw [h1, cond_false] at hr
          obtain ⟨s, u, g1, g2, hk⟩ := ok2_inv hr hne
          obtain ⟨o1, o2⟩ := ho et i z hu hg hz
          obtain ⟨i', zv, z1, z2, z3, z4⟩ := zeroL_of hT hz o1
          rw [hg] at z1; cases z1
          exact wp_val (by simp only [execOp, hop]) (val_mkSl (ed := .invalid) hi hne (hf x hx.1 s g1) (hf y hx.2 u g2) (hT.und hu (by simp)).1 z2 z3 (z4 ρ) o1 o2 hk)
  | _ => rw [hu] at hr; exact absurd hr.symm hne
def FitO (ρ : Mp) (ls : List AV) (e : Env) (s : Option Sx) (v : Option Value) : Prop := match s, v with | none, none => True | some s, some v => rel ρ (s ls e) v | _, _ => False
theorem lowO_fit {ρ : Mp} {ds : List (Option Nat)} {ls : List AV} {e : Env} {a : Act} {x : Option Operand} {s : Option Sx} (h : lowO ds x = some s) (hf : ∀ y, x = some y → Fits ρ ds ls e a y) : FitO ρ ls e s (x.map a.eval) := by
  cases x with
  | none => cases h; exact trivial
  | some y =>
    simp only [lowO] at h
    cases h1 : lowS ds y with
    | none => rw [h1] at h; cases h
    | some u => rw [h1] at h; cases h; exact hf y rfl u h1
theorem ok_slice {t : TypeId} {x : Operand} {lo hi' mx : Option Operand} (hT : TbOk P tb) (hop : o.op = .slice t x lo hi' mx) (hm : mx.isSome = true → hi'.isSome = true)
    (hs : ∀ et, und tb t = .slice et → und tb et ≠ .invalid) (ha : ∀ m et, und tb t = .array m et → und tb et ≠ .invalid) (hp : ∀ p m et, und tb t = .pointer p → und tb p = .array m et → und tb et ≠ .invalid) : OpOk P tb o := by
  intro ds ls e a ρ h n w call k rr Q hc hf hi hr hne
  rw [hop] at hr
  simp only [lowOp] at hr
  have hmem : ∀ y, (y = x ∨ lo = some y ∨ hi' = some y ∨ mx = some y) → y ∈ o.op.operands := by
    intro y hy
    rw [hop]
    simp only [Op.operands]
    rcases hy with rfl | rfl | rfl | rfl <;> simp
  cases h1 : lowS ds x with
  | none => rw [h1] at hr; revert hr; cases und tb t <;> intro hr <;> exact absurd hr.symm hne
  | some sx =>
    cases h2 : lowO ds lo with
    | none => rw [h1, h2] at hr; revert hr; cases und tb t <;> intro hr <;> exact absurd hr.symm hne
    | some slo =>
      cases h3 : lowO ds hi' with
      | none => rw [h1, h2, h3] at hr; revert hr; cases und tb t <;> intro hr <;> exact absurd hr.symm hne
      | some shi =>
        cases h4 : lowO ds mx with
        | none => rw [h1, h2, h3, h4] at hr; revert hr; cases und tb t <;> intro hr <;> exact absurd hr.symm hne
        | some smx =>
          rw [h1, h2, h3, h4] at hr
          have fx := hf x (hmem x (.inl rfl)) sx h1
          have flo : FitO ρ ls e slo (lo.map a.eval) := lowO_fit h2 fun y hy => hf y (hmem y (.inr (.inl hy)))
          have fhi : FitO ρ ls e shi (hi'.map a.eval) := lowO_fit h3 fun y hy => hf y (hmem y (.inr (.inr (.inl hy))))
          have fmx : FitO ρ ls e smx (mx.map a.eval) := lowO_fit h4 fun y hy => hf y (hmem y (.inr (.inr (.inr hy))))
          have hm' : (mx.map a.eval).isSome = true → (hi'.map a.eval).isSome = true := by simpa using hm
          cases hu : und tb t with
          | string =>
            rw [hu] at hr
            cases smx with
            | some _ => exact absurd hr.symm hne
            | none =>
              have hmx : mx.map a.eval = none := by
                cases hh : mx.map a.eval with
                | none => rfl
                | some v => rw [hh] at fmx; exact fmx.elim
              refine wp_val (s := Instr.sliceAt t (a.eval x) (lo.map a.eval) (hi'.map a.eval) (mx.map a.eval)) (by simp only [execOp, hop]) ?_
              rw [hmx]
              have hr2 : (match sx ls e with | .str m y => cutS m y (bnd slo 0 ls e) (bnd shi m ls e) h n k | _ => .fail) = rr := hr
              clear hr
              generalize sx ls e = v at fx hr2
              refine val_sliceS hi hne fx (hT.und hu (by simp)).1 flo fhi ?_
              cases v <;> exact hr2
          | slice et =>
            rw [hu] at hr
            obtain ⟨_, i, g1, g2⟩ := hT.und rfl (hs et hu)
            simp only at hr
            rw [size_of g1] at hr
            refine wp_val (s := Instr.sliceAt t (a.eval x) (lo.map a.eval) (hi'.map a.eval) (mx.map a.eval)) (by simp only [execOp, hop]) ?_
            simp only [oSlice] at hr
            generalize sx ls e = v at fx hr
            refine val_slice hi hne fx (hT.und hu (by simp)).1 g2 flo fhi fmx hm' ?_
            cases v <;> first | exact hr | (cases smx <;> exact hr)
          | array m et =>
            rw [hu] at hr
            obtain ⟨_, i, g1, g2⟩ := hT.und rfl (ha m et hu)
            simp only at hr
            rw [size_of g1] at hr
            exact wp_val (s := Instr.sliceAt t (a.eval x) (lo.map a.eval) (hi'.map a.eval) (mx.map a.eval)) (by simp only [execOp, hop]) (val_sliceA hi hne fx (.inl (hT.und hu (by simp)).1) g2 flo fhi fmx hm' hr)
          | pointer p =>
            rw [hu] at hr
            simp only at hr
            cases hu2 : und tb p with
            | array m et =>
              rw [hu2] at hr
              obtain ⟨_, i, g1, g2⟩ := hT.und rfl (hp p m et hu hu2)
              simp only at hr
              rw [size_of g1] at hr
              exact wp_val (s := Instr.sliceAt t (a.eval x) (lo.map a.eval) (hi'.map a.eval) (mx.map a.eval)) (by simp only [execOp, hop]) (val_sliceA hi hne fx (.inr ⟨p, (hT.und hu (by simp)).1, (hT.und hu2 (by simp)).1⟩) g2 flo fhi fmx hm' hr)
            | _ => rw [hu2] at hr; exact absurd hr.symm hne
          | _ => rw [hu] at hr; exact absurd hr.symm hne
theorem ok_makeFunc {f : Nat} {first caps : Array Operand} (hop : o.op = .makeFunc (.func f) first caps) : OpOk P tb o := by
  intro ds ls e a ρ h n w call k rr Q hc hf hi hr hne
  rw [hop] at hr
  simp only [lowOp] at hr
  cases hfe : first.isEmpty with
  | false => rw [hfe] at hr; exact absurd hr.symm hne
  | true =>
    rw [hfe, cond_true] at hr
    have hf0 : first = #[] := Array.isEmpty_iff.1 hfe
    subst hf0
    cases hs : lowSs ds caps.toList with
    | none => rw [hs] at hr; exact absurd hr.symm hne
    | some ss =>
      rw [hs] at hr
      have hk : k (.func f (evC ss ls e)) h n = rr := hr
      have hmem : ∀ x, x ∈ caps.toList → x ∈ o.op.operands := by
        intro x hx; rw [hop]; simp only [Op.operands]; simp [Array.mem_toList_iff.1 hx]
      have hrel : relL ρ (evC ss ls e) (caps.toList.map a.eval) := by
        have : ∀ {xs : List Operand} {ss : List Sx}, lowSs ds xs = some ss → (∀ x ∈ xs, Fits ρ ds ls e a x) → relL ρ (evC ss ls e) (xs.map a.eval) := by
          intro xs
          induction xs with
          | nil => intro ss h _; cases h; simp only [evC, relL, List.map_nil]
          | cons x xs ih =>
            intro ss h hf
            simp only [lowSs] at h
            cases h1 : lowS ds x with
            | none => rw [h1] at h; cases h
            | some s =>
              cases h2 : lowSs ds xs with
              | none => rw [h1, h2] at h; cases h
              | some l =>
                rw [h1, h2] at h; cases h
                simp only [evC, relL, List.map_cons]
                exact ⟨_, _, rfl, hf x List.mem_cons_self s h1, ih h2 fun y hy => hf y (List.mem_cons_of_mem _ hy)⟩
        exact this hs fun x hx => hf x (hmem x hx)
      refine wp_val (s := Instr.makeFunc (.func f) (#[].map a.eval) (caps.map a.eval)) (by simp only [execOp, hop]) (.same hi hk rfl ?_)
      simp only [rel]
      exact ⟨caps.map a.eval, by simp, by simpa using hrel⟩
end
end
end Go.VE
namespace Go.VE
noncomputable section
open Go
section
variable {P : Program} {tb : Tb} {o : Oper}
theorem ok_convert {s d : TypeId} {x : Operand} (hT : TbOk P tb) (hop : o.op = .convert s d x) (hns : ∀ et, und tb s ≠ .slice et) : OpOk P tb o := by
  intro ds ls e a ρ h n w call k rr Q hc hf hi hr hne
  rw [hop] at hr
  simp only [lowOp] at hr
  have hx : x ∈ o.op.operands := by rw [hop]; simp [Op.operands]
  have bad : oBad call ls e h n k = rr → o.wp P a w (After ρ h n w k rr a o.dst) Q := fun h0 => absurd h0.symm hne
  cases hs : und tb s with
  | int ks =>
    cases hd : und tb d with
    | int kd =>
      rw [hs, hd] at hr
      obtain ⟨u, h1, hk⟩ := ok1_inv hr hne
      exact wp_val (by simp only [execOp, hop]) (val_toInt hi hne (hf x hx u h1) (hT.und hd (by simp)).1 (hT.und hs (by simp)).1 hk)
    | _ => rw [hs, hd] at hr; exact bad hr
  | string =>
    cases hd : und tb d with
    | string =>
      rw [hs, hd] at hr
      obtain ⟨u, h1, hk⟩ := ok1_inv hr hne
      have hv := hf x hx u h1
      have hk' : strA (u ls e) h n k = rr := hk
      generalize u ls e = v at hv hk'
      cases v <;> try exact absurd hk'.symm hne
      have hv' := hv
      simp only [rel] at hv'
      obtain ⟨b, e1, _⟩ := hv'
      refine wp_val (s := convert s d (a.eval x)) (by simp only [execOp, hop]) (.same hi hk' (rv := a.eval x) ?_ hv)
      rw [e1]
      simp only [convert, Sem.run_bind, run_und (hT.und hs (by simp)).1, run_und (hT.und hd (by simp)).1, Result.andThen_ok, Sem.run_pure]
    | slice et =>
      rw [hs, hd] at hr
      simp only at hr
      cases h8 : isU8 tb et with
      | false => rw [h8] at hr; exact bad hr
      | true =>
        rw [h8, cond_true] at hr
        obtain ⟨u, h1, hk⟩ := ok1_inv hr hne
        exact wp_val (by simp only [execOp, hop]) (val_strToBs hi hne (hf x hx u h1) (hT.und hs (by simp)).1 (hT.und hd (by simp)).1 (hT.und (isU8_of h8) (by simp)).1 hk)
    | _ => rw [hs, hd] at hr; exact bad hr
  | slice et => exact absurd hs (hns et)
  | _ => rw [hs] at hr; exact bad hr
end
end
end Go.VE
namespace Go.VE
noncomputable section
open Go
theorem pushes_data : ∀ (l : List UInt8) (s : ByteArray), ((l.map fun b => (b.toNat : Int)).foldl (fun r n => r.push (UInt8.ofNat n.toNat)) s).data.toList = s.data.toList ++ l
  | [], s => by simp
  | b :: l, s => by
    simp only [List.map_cons, List.foldl_cons]
    rw [pushes_data l]
    have : (s.push (UInt8.ofNat (b.toNat : Int).toNat)).data.toList = s.data.toList ++ [b] := by
      simp [ByteArray.push]
    rw [this]; simp
section
variable {P : Program} {tb : Tb} {o : Oper}
theorem val_bsToStr {ρ : Mp} {h : H} {n : Nat} {w : World} {k : K} {rr : RR} (hi : Inv ρ h n w) (hne : rr ≠ .fail) {s d et : TypeId} {x : AV} {rx : Value} (hx : rel ρ x rx) (hs : P.underlying s = some (.slice et)) (he : P.underlying et = some (.int .u8)) (hd : P.underlying d = some .string)
    (e : bsToStrA x h n k = rr) : Val P (convert s d rx) ρ h n w k rr := by
  cases x <;> try exact absurd e.symm hne
  case nils =>
    simp only [rel] at hx; subst hx
    refine .same hi e (rv := .string .empty) ?_ (by simp only [rel]; exact ⟨_, rfl, rfl, rfl⟩)
    rw [run_convert_bytes_string w s d et _ _ _ hs he hd]; rfl
  case sl b off len cap ex =>
    have e1 : strSeg (segOf h 1 len (.sl b off len cap ex)) h n k = rr := e
    cases hg : segOf h 1 len (.sl b off len cap ex) with
    | none => rw [hg] at e1; exact absurd e1.symm hne
    | some sg =>
      rw [hg] at e1
      obtain ⟨c, c1, c2, c3⟩ := segOf_run hi hx hg (fun b' off' len' cap' ex' h => by cases h; exact Nat.le_refl _) (fun q y h => by cases h)
      have hx' := hx
      simp only [rel] at hx'
      obtain ⟨r, o', f, cc, _, rfl, _⟩ := hx'
      have hload : (loadCells ⟨r, f, none⟩ len).run P w = .ok c w := by
        have := c1
        simp only [Builtin.firstCells, Nat.mul_one] at this
        exact this
      have fin : ∀ (l : List UInt8) (m y : Nat), c = ((l.map fun b => (b.toNat : Int)).map (Value.int .u8)).toArray → packs l m y → k (.str m y) h n = rr → Val P (convert s d (.slice (some ⟨r, f, none⟩) len cc)) ρ h n w k rr := by
        intro l m y hc hp hk
        refine .same hi hk (rv := .string _) ((run_convert_bytes_string w s d et _ _ _ hs he hd).trans (run_bytesToString w _ _ _ _ (by rw [hload, hc]))) ?_
        simp only [rel]
        refine ⟨_, rfl, ?_⟩
        rw [pushes_data]
        exact hp
      cases sg with
      | vs q i t =>
        obtain ⟨e2, e3⟩ := br_fail (show br (Nat.beq q 0) (k (.str 0 0) h n) .fail = rr from e1) hne
        have hq := beq_n e2
        obtain ⟨c4, _⟩ := c3
        have hlen : c.size = 0 := by omega
        exact fin [] 0 0 (by simpa using Array.eq_empty_of_size_eq_zero hlen) packs_nil e3
      | bs q y =>
        have e2 : (frc y fun y => k (.str q y) h n) = rr := e1
        rw [frc_eq] at e2
        obtain ⟨_, hq, l, hp, hl⟩ := c3
        refine fin l q y ?_ hp e2
        apply Array.ext'
        apply List.ext_getElem?
        intro j
        simp only [List.map_map]
        rw [Array.getElem?_toList, List.getElem?_map]
        have hlen := hp.1
        rcases Nat.lt_or_ge j l.length with hj | hj
        · rw [hl j hj, List.getElem?_eq_getElem hj]; rfl
        · rw [List.getElem?_eq_none hj, Array.getElem?_eq_none (by omega)]; rfl
theorem ok_convertBs {s d : TypeId} {x : Operand} (hT : TbOk P tb) (hop : o.op = .convert s d x) (hns : ∃ et, und tb s = .slice et) : OpOk P tb o := by
  intro ds ls e a ρ h n w call k rr Q hc hf hi hr hne
  obtain ⟨et, hs⟩ := hns
  rw [hop] at hr
  simp only [lowOp] at hr
  have hx : x ∈ o.op.operands := by rw [hop]; simp [Op.operands]
  cases hd : und tb d with
  | string =>
    rw [hs, hd] at hr
    simp only at hr
    cases h8 : isU8 tb et with
    | false => rw [h8] at hr; exact absurd hr.symm hne
    | true =>
      rw [h8, cond_true] at hr
      obtain ⟨u, h1, hk⟩ := ok1_inv hr hne
      exact wp_val (by simp only [execOp, hop]) (val_bsToStr hi hne (hf x hx u h1) (hT.und hs (by simp)).1 (hT.und (isU8_of h8) (by simp)).1 (hT.und hd (by simp)).1 hk)
  | _ => rw [hs, hd] at hr; exact absurd hr.symm hne
end
end
end Go.VE
namespace Go.VE
noncomputable section
open Go
theorem implRows_spec {want : Array (String × TypeId)} : ∀ {l : List TypeInfo} {k u : Nat} {i : TypeInfo}, k ≤ u → l[u - k]? = some i → memN u (implRows want l k) = implements want i
  | [], k, u, i, _, h => by simp at h
  | j :: l, k, u, i, hk, h => by
    have later : k + 1 ≤ u → memN u (implRows want l (k + 1)) = implements want i := fun h1 => by
      refine implRows_spec h1 ?_
      rwa [show u - k = (u - (k + 1)) + 1 by omega, List.getElem?_cons_succ] at h
    have low : ∀ (l : List TypeInfo) (k : Nat), u < k → memN u (implRows want l k) = false := by
      intro l
      induction l with
      | nil => intro k _; rfl
      | cons j l ih =>
        intro k hlt
        simp only [implRows]
        cases implements want j
        · exact ih _ (by omega)
        · rw [cond_true]
          unfold memN
          have : Nat.beq u k = false := by
            cases hb : Nat.beq u k
            · rfl
            · have := beq_n hb; omega
          rw [this]
          exact ih _ (by omega)
    simp only [implRows]
    by_cases e : u = k
    · subst e
      rw [Nat.sub_self] at h
      cases h
      cases hi : implements want j with
      | true => rw [cond_true]; unfold memN; rw [Nat.beq_refl]; rfl
      | false => rw [cond_false]; exact low l _ (by omega)
    · have hb : Nat.beq u k = false := by
        cases hb : Nat.beq u k
        · rfl
        · exact absurd (beq_n hb) e
      cases implements want j with
      | true =>
        rw [cond_true]; unfold memN; rw [hb]
        exact later (by omega)
      | false => rw [cond_false]; exact later (by omega)
theorem missing_none {want : Array (String × TypeId)} {i : TypeInfo} (h : implements want i = true) : Instr.missingMethod want i.methods = none := by
  unfold implements at h
  have : want.toList.filter (fun (p : String × TypeId) => !i.methods.any fun m => m.name == p.1 && m.sig == p.2) = [] := by
    rw [List.filter_eq_nil_iff]
    intro p hp
    rw [← Array.all_toList, List.all_eq_true] at h
    have := h p hp
    simp only at this
    simp [this]
  unfold Instr.missingMethod
  simp only
  rw [this]
  rfl
theorem least_some : ∀ {l : List String}, l ≠ [] → ∃ m, Instr.least l = some m
  | [], h => absurd rfl h
  | s :: l, _ => ⟨_, rfl⟩
theorem missing_some {want : Array (String × TypeId)} {i : TypeInfo} (h : implements want i = false) : ∃ m, Instr.missingMethod want i.methods = some m := by
  unfold implements at h
  have hne : ((want.toList.filter (fun (p : String × TypeId) => !i.methods.any fun m => m.name == p.1 && m.sig == p.2)).map (·.1)) ≠ [] := by
    intro h0
    rw [List.map_eq_nil_iff, List.filter_eq_nil_iff] at h0
    have : (want.all fun (n, s) => i.methods.any fun m => m.name == n && m.sig == s) = true := by
      rw [← Array.all_toList, List.all_eq_true]
      intro p hp
      have := h0 p hp
      simpa using this
    rw [this] at h; cases h
  unfold Instr.missingMethod
  simp only
  generalize ((want.toList.filter (fun (p : String × TypeId) => !i.methods.any fun m => m.name == p.1 && m.sig == p.2)).map (·.1)) = l at hne
  have hp : l.partition (·.contains (Char.ofNat 46)) = (l.filter (·.contains (Char.ofNat 46)), l.filter (fun s => !(s.contains (Char.ofNat 46)))) := by simp [List.partition_eq_filter_filter, Function.comp_def]
  rw [hp]
  simp only
  cases he : Instr.least (l.filter fun s => !(s.contains (Char.ofNat 46))) with
  | some m => exact ⟨m, rfl⟩
  | none =>
    have h1 : l.filter (fun s => !(s.contains (Char.ofNat 46))) = [] := by
      cases hl : l.filter (fun s => !(s.contains (Char.ofNat 46))) with
      | nil => rfl
      | cons a b => rw [hl] at he; cases he
    have h2 : (l.filter (·.contains (Char.ofNat 46))) ≠ [] := by
      intro h2
      cases l with
      | nil => exact hne rfl
      | cons a b =>
        rw [List.filter_eq_nil_iff] at h1 h2
        have g1 := h1 a List.mem_cons_self
        have g2 := h2 a List.mem_cons_self
        simp at g1 g2
        exact absurd g1 (by simpa using g2)
    exact least_some (by simpa using h2)
section
variable {P : Program} {tb : Tb} {o : Oper}
theorem ok_asrtI {x : Operand} {t t' : TypeId} {want : Array (String × TypeId)} (hT : TbOk P tb) (hop : o.op = .typeAssert x t' t true) (hu : und tb t = .interface want) (hz : ∀ i, tb.types.get (t + 1) = some i → i.zero = some .nilIface) : OpOk P tb o := by
  intro ds ls e a ρ h n w call k rr Q hc hf hi hr hne
  rw [hop] at hr
  simp only [lowOp] at hr
  rw [hu] at hr
  obtain ⟨s, h1, hk⟩ := ok1_inv hr hne
  have hv := hf x (by rw [hop]; simp [Op.operands]) s h1
  have hk' : asrtIA (lenL tb.list) (implRows want tb.list 0) (s ls e) h n k = rr := hk
  obtain ⟨g1, it, g2, g3⟩ := hT.und hu (by simp)
  have hzero := run_zero (P := P) (w := w) g3 (hz it g2)
  have rel2 : ∀ (v : AV) (rv : Value) (b : Bool), rel ρ v rv → rel ρ (two v b) (.tuple #[rv, .bool b]) := fun v rv b hv => by
    unfold two
    simp only [rel]
    exact ⟨_, rfl, relL_cons.2 ⟨rv, [.bool b], rfl, hv, relL_cons.2 ⟨.bool b, [], rfl, rel_bool b, relL_nil.2 rfl⟩⟩⟩
  have hnil : rel ρ .nili .nilIface := by simp only [rel]
  refine wp_val (s := Instr.typeAssert (a.eval x) t' t true) (by simp only [execOp, hop]) ?_
  generalize s ls e = v at hv hk'
  cases v <;> try exact absurd hk'.symm hne
  case nili =>
    simp only [rel] at hv
    rw [hv]
    refine .same hi hk' (rv := .tuple #[.nilIface, .bool false]) ?_ (rel2 _ _ _ hnil)
    simp only [Instr.typeAssert, Sem.run_bind, run_und g1, Result.andThen_ok, if_true, hzero, Sem.run_pure]
  case iface u v =>
    have hv' := hv
    simp only [rel] at hv'
    obtain ⟨rv, hre, _⟩ := hv'
    obtain ⟨hlt, hb⟩ := br_fail (show br (Nat.blt u (lenL tb.list)) (br (memN u (implRows want tb.list 0)) (k (two (.iface u v) true) h n) (k (two .nili false) h n)) .fail = rr from hk') hne
    rw [Nat.blt_eq, lenL_eq] at hlt
    have hget : tb.list[u]? = some tb.list[u] := List.getElem?_eq_getElem hlt
    have hinfo := hT.info u tb.list[u] (by rw [← hT.list]; exact hget)
    have hmem := implRows_spec (want := want) (l := tb.list) (k := 0) (u := u) (i := tb.list[u]) (Nat.zero_le _) (by rw [Nat.sub_zero]; exact hget)
    rw [hre]
    cases him : implements want tb.list[u] with
    | true =>
      rw [hmem, him] at hb
      rw [hre] at hv
      refine .same hi hb (rv := .tuple #[.iface u rv, .bool true]) ?_ (rel2 _ _ _ hv)
      simp only [Instr.typeAssert, Sem.run_bind, run_und g1, run_info hinfo, Result.andThen_ok, missing_none him, if_true, Sem.run_pure]
    | false =>
      rw [hmem, him] at hb
      obtain ⟨m, hm⟩ := missing_some him
      refine .same hi hb (rv := .tuple #[.nilIface, .bool false]) ?_ (rel2 _ _ _ hnil)
      simp only [Instr.typeAssert, Sem.run_bind, run_und g1, run_info hinfo, Result.andThen_ok, hm, if_true, hzero, Sem.run_pure]
end
end
end Go.VE
namespace Go.VE
noncomputable section
open Go
theorem lowFields_spec {ds : List (Option Nat)} {tb : Tb} {fs : Array Field} : ∀ {l : List (Nat × Operand)} {ps : List (Nat × Nat × Sx)}, lowFields ds tb fs l = some ps → ps.length = l.length ∧
    ∀ j (hj : j < ps.length) (hk : j < l.length), ∃ f, fs[(l[j]'hk).1]? = some f ∧ (ps[j]'hj).1 = f.offset ∧ (ps[j]'hj).2.1 = size tb f.type ∧ lowS ds (l[j]'hk).2 = some (ps[j]'hj).2.2
  | [], ps, h => by cases h; exact ⟨rfl, fun j hj => absurd hj (by simp)⟩
  | (i, x) :: l, ps, h => by
    simp only [lowFields] at h
    cases h1 : nthL i fs.toList with
    | none => rw [h1] at h; cases h
    | some f =>
      cases h2 : lowS ds x with
      | none => rw [h1, h2] at h; cases h
      | some s =>
        cases h3 : lowFields ds tb fs l with
        | none => rw [h1, h2, h3] at h; cases h
        | some r =>
          rw [h1, h2, h3] at h; cases h
          obtain ⟨g1, g2⟩ := lowFields_spec h3
          refine ⟨by simp [g1], fun j hj hk => ?_⟩
          cases j with
          | zero =>
            refine ⟨f, ?_, rfl, rfl, h2⟩
            rw [nthL_eq, Array.getElem?_toList] at h1
            exact h1
          | succ j => exact g2 j (by simpa using hj) (by simpa using hk)
theorem lowParts_spec {ds : List (Option Nat)} {sz : Nat} : ∀ {l : List (Nat × Operand)} {ps : List (Nat × Nat × Sx)}, lowParts ds sz l = some ps → ps.length = l.length ∧
    ∀ j (hj : j < ps.length) (hk : j < l.length), (ps[j]'hj).1 = (l[j]'hk).1 * sz ∧ (ps[j]'hj).2.1 = sz ∧ lowS ds (l[j]'hk).2 = some (ps[j]'hj).2.2
  | [], ps, h => by cases h; exact ⟨rfl, fun j hj => absurd hj (by simp)⟩
  | (i, x) :: l, ps, h => by
    simp only [lowParts] at h
    cases h2 : lowS ds x with
    | none => rw [h2] at h; cases h
    | some s =>
      cases h3 : lowParts ds sz l with
      | none => rw [h2, h3] at h; cases h
      | some r =>
        rw [h2, h3] at h; cases h
        obtain ⟨g1, g2⟩ := lowParts_spec h3
        refine ⟨by simp [g1], fun j hj hk => ?_⟩
        cases j with
        | zero => exact ⟨rfl, rfl, h2⟩
        | succ j => exact g2 j (by simpa using hj) (by simpa using hk)
section
variable {P : Program} {tb : Tb} {o : Oper}
theorem ok_build {t : TypeId} {os : Array (Nat × Operand)} (hT : TbOk P tb) (hop : o.op = .build t os) (ho : ∀ z, zeroL tb t = some z → okCs z = true)
    (hfs : ∀ fs : Array Field, und tb t = .struct fs → ∀ f ∈ fs, ∃ i, tb.types.get (f.type + 1) = some i) (hae : ∀ m et, und tb t = .array m et → ∃ i, tb.types.get (et + 1) = some i) : OpOk P tb o := by
  intro ds ls e a ρ h n w call k rr Q hc hf hi hr hne
  rw [hop] at hr
  simp only [lowOp] at hr
  have hmem : ∀ j (hk : j < os.toList.length), (os.toList[j]'hk).2 ∈ o.op.operands := by
    intro j hk
    rw [hop]
    simp only [Op.operands]
    simp only [List.mem_toArray, List.mem_map]
    exact ⟨os.toList[j], List.getElem_mem _, rfl⟩
  cases hz : zeroL tb t with
  | none => rw [hz] at hr; exact absurd hr.symm hne
  | some z =>
    rw [hz] at hr
    obtain ⟨i, zv, z1, z2, z3, z4⟩ := zeroL_of hT hz (ho z hz)
    cases hu : und tb t with
    | struct fs =>
      rw [hu] at hr
      simp only at hr
      cases hl : lowFields ds tb fs os.toList with
      | none => rw [hl] at hr; exact absurd hr.symm hne
      | some ps =>
        rw [hl] at hr
        obtain ⟨g1, g2⟩ := lowFields_spec hl
        obtain ⟨places, p1, p2⟩ := mapM_fields (P := P) (w := w) (fs := fs) (fun f hf => by obtain ⟨j, hj⟩ := hfs fs hu f hf; exact ⟨j, hT.info _ _ hj⟩)
        refine wp_val (s := Instr.build t (os.map fun (i, x) => (i, a.eval x))) (by simp only [execOp, hop]) ?_
        refine val_build (d := .invalid) (ls := ls) (e := e) (f := a.eval) (ps := ps) (os := os) (place := fun i => places[i]?) hi hne z2 z3 (z4 ρ) (ho z hz) g1 (fun j hj hk => ?_) (fun c hc => ?_) hr
        · obtain ⟨f, f1, f2, f3, f4⟩ := g2 j hj hk
          obtain ⟨fi, hfi⟩ := hfs fs hu f (Array.mem_of_getElem? f1)
          refine ⟨?_, hf _ (hmem j hk) _ f4⟩
          rw [p2, f1, Option.bind_some, hT.info _ _ hfi, Option.map_some, f2, f3, size_of hfi]
        · exact build_struct z2 z3 (hT.und hu (by simp)).1 p1 (fun i => rfl) (by rw [Array.toList_map]; exact hc)
    | array m et =>
      rw [hu] at hr
      simp only at hr
      cases hl : lowParts ds (size tb et) os.toList with
      | none => rw [hl] at hr; exact absurd hr.symm hne
      | some ps =>
        rw [hl] at hr
        obtain ⟨g1, g2⟩ := lowParts_spec hl
        obtain ⟨ei, hei⟩ := hae m et hu
        refine wp_val (s := Instr.build t (os.map fun (i, x) => (i, a.eval x))) (by simp only [execOp, hop]) ?_
        refine val_build (d := .invalid) (ls := ls) (e := e) (f := a.eval) (ps := ps) (os := os) (place := fun i => some (i * ei.size, ei.size)) hi hne z2 z3 (z4 ρ) (ho z hz) g1 (fun j hj hk => ?_) (fun c hc => ?_) hr
        · obtain ⟨f1, f2, f3⟩ := g2 j hj hk
          exact ⟨by rw [f1, f2, size_of hei], hf _ (hmem j hk) _ f3⟩
        · exact build_array z2 z3 (hT.und hu (by simp)).1 (hT.info _ _ hei) (by rw [Array.toList_map]; exact hc)
    | _ => rw [hu] at hr; exact absurd hr.symm hne
end
end
end Go.VE
namespace Go.VE
noncomputable section
open Go
def RelT (ρ : Mp) (t : T AV) (c : Array Value) (m : Nat) : Prop := c.size = m ∧ ∀ j, j < m → ∃ v, c[j]? = some v ∧ rel ρ (cellAt t j) v ∧ okC (cellAt t j) = true
theorem relT_lay {ρ : Mp} {t : T AV} {c : Array Value} {m off : Nat} {l : AV} {vs : List Value} (h : RelT ρ t c m) (hl : relL ρ l vs) (ho : okCs l = true) (hb : off + lenC l ≤ m) (hm : m ≤ top) : RelT ρ (listT l off t) (setRow c off vs) m := by
  have hch := chain_of_relL hl
  have hlen := relL_len hch hl
  refine ⟨by rw [setRow_size]; exact h.1, fun j hj => ?_⟩
  have hget := setRow_get vs c off j (by rw [h.1, ← hlen]; exact hb)
  have hat := listT_at hch (i := off) (t := t) j (by omega)
  by_cases hin : off ≤ j ∧ j < off + lenC l
  · have h1 := hat.1 hin.1 hin.2
    obtain ⟨v, h2, h3⟩ := relL_nth hch hl h1
    refine ⟨v, ?_, h3, okCs_nth hch ho h1⟩
    rw [hget, if_pos (by rw [← hlen]; exact hin)]
    exact h2
  · rw [hat.2 hin]
    obtain ⟨v, h2, h3, h4⟩ := h.2 j hj
    exact ⟨v, by rw [hget, if_neg (by rw [← hlen]; exact hin)]; exact h2, h3, h4⟩
theorem buildT_run {ρ : Mp} {ls : List AV} {e : Env} {f : Operand → Value} {size a : Nat} (hsz : a * size ≤ top) : ∀ (ps : List (Nat × Sx)) (os : List (Nat × Operand)) (t : T AV) (c : Array Value) (r : T AV), ps.length = os.length →
    (∀ j (hj : j < ps.length) (hk : j < os.length), (ps[j]'hj).1 = (os[j]'hk).1 ∧ rel ρ ((ps[j]'hj).2 ls e) (f (os[j]'hk).2)) →
    RelT ρ t c (a * size) → buildT ls e size a ps t = some r → ∃ c', Instr.fill (fun i => some (i * size, size)) c (os.map fun (i, x) => (i, f x)) = some c' ∧ RelT ρ r c' (a * size)
  | [], [], t, c, r, _, _, hl, e1 => by cases e1; exact ⟨c, rfl, hl⟩
  | [], _ :: _, _, _, _, h, _, _, _ => by cases h
  | _ :: _, [], _, _, _, h, _, _, _ => by cases h
  | (i, s) :: ps, (i', x) :: os, t, c, r, h, hp, hl, e1 => by
    obtain ⟨h0, h1⟩ := hp 0 (by simp) (by simp)
    simp only [List.getElem_cons_zero] at h0 h1
    subst h0
    simp only [buildT] at e1
    obtain ⟨g1, e2⟩ := br_some e1
    obtain ⟨g2, e3⟩ := br_some e2
    obtain ⟨g3, e4⟩ := br_some e3
    rw [Nat.beq_eq] at g1; rw [Nat.blt_eq] at g3
    have hv := rel_cells g2 h1
    have hlen := relL_len (chain_of_relL hv) hv
    have hcs : (f x).cells.size = size := by rw [← g1, hlen]; simp
    have hbd : i * size + size ≤ a * size := by
      have := Nat.mul_le_mul_right size (show i + 1 ≤ a from g3)
      rw [Nat.add_mul, Nat.one_mul] at this
      exact this
    simp only [List.map_cons]
    rw [fill_one (off := i * size) (size := size) rfl hcs (by rw [hl.1]; exact hbd)]
    refine buildT_run hsz ps os _ _ r (by simpa using h) (fun j hj hk => ?_) (relT_lay hl hv g2 (by rw [g1]; exact hbd) hsz) e4
    have := hp (j + 1) (by simp; omega) (by simp; omega)
    simpa using this
theorem lowElems_spec {ds : List (Option Nat)} : ∀ {l : List (Nat × Operand)} {ps : List (Nat × Sx)}, lowElems ds l = some ps → ps.length = l.length ∧
    ∀ j (hj : j < ps.length) (hk : j < l.length), (ps[j]'hj).1 = (l[j]'hk).1 ∧ lowS ds (l[j]'hk).2 = some (ps[j]'hj).2
  | [], ps, h => by cases h; exact ⟨rfl, fun j hj => absurd hj (by simp)⟩
  | (i, x) :: l, ps, h => by
    simp only [lowElems] at h
    cases h2 : lowS ds x with
    | none => rw [h2] at h; cases h
    | some s =>
      cases h3 : lowElems ds l with
      | none => rw [h2, h3] at h; cases h
      | some r =>
        rw [h2, h3] at h; cases h
        obtain ⟨g1, g2⟩ := lowElems_spec h3
        refine ⟨by simp [g1], fun j hj hk => ?_⟩
        cases j with
        | zero => exact ⟨rfl, h2⟩
        | succ j => exact g2 j (by simpa using hj) (by simpa using hk)
section
variable {P : Program} {tb : Tb} {o : Oper}
theorem ok_buildSlice {t : TypeId} {a : Nat} {os : Array (Nat × Operand)} (hT : TbOk P tb) (hop : o.op = .buildSlice t a os) (h8 : ∀ et, und tb t = .slice et → isU8 tb et = false)
    (ho : ∀ et z i, und tb t = .slice et → zeroL tb et = some z → tb.types.get (et + 1) = some i → okCs z = true ∧ lenC z = i.size ∧ a * i.size ≤ 2 ^ 24) : OpOk P tb o := by
  intro ds ls e ac ρ h n w call k rr Q hc hf hi hr hne
  rw [hop] at hr
  simp only [lowOp] at hr
  have hmem : ∀ j (hk : j < os.toList.length), (os.toList[j]'hk).2 ∈ o.op.operands := by
    intro j hk
    rw [hop]
    simp only [Op.operands]
    simp only [List.mem_toArray, List.mem_map]
    exact ⟨os.toList[j], List.getElem_mem _, rfl⟩
  cases hu : und tb t with
  | slice et =>
    cases hl : lowElems ds os.toList with
    | none => rw [hu, hl] at hr; exact absurd hr.symm hne
    | some ps =>
      rw [hu, hl] at hr
      simp only at hr
      cases hz : zeroL tb et with
      | none => rw [hz] at hr; exact absurd hr.symm hne
      | some z =>
        rw [hz] at hr
        simp only at hr
        rw [h8 et hu, cond_false] at hr
        have hget : ∃ i, tb.types.get (et + 1) = some i := by
          unfold zeroL at hz
          cases hza : zeroA tb et with
          | none => rw [hza] at hz; cases hz
          | some z' => obtain ⟨i, _, g1, _⟩ := zeroA_of hT hza; exact ⟨i, g1⟩
        obtain ⟨i, hget⟩ := hget
        obtain ⟨o1, o2, o3⟩ := ho et z i hu hz hget
        obtain ⟨i', zv, z1, z2, z3, z4⟩ := zeroL_of hT hz o1
        rw [hget] at z1; cases z1
        rw [size_of hget] at hr
        have hr' : newSl a a (mapO (.cells (a * i.size) i.size) (buildT ls e i.size a ps (zeroT z i.size a))) h n k = rr := hr
        cases hb : buildT ls e i.size a ps (zeroT z i.size a) with
        | none => rw [hb] at hr'; exact absurd hr'.symm hne
        | some r =>
          rw [hb] at hr'
          simp only [mapO, newSl] at hr'
          obtain ⟨g1, g2⟩ := lowElems_spec hl
          have hbig : (2 : Nat) ^ 24 = 16777216 := by decide
          have htop : a * i.size ≤ top := by unfold top; omega
          have hz0 : RelT ρ (zeroT z i.size a) ((Array.range (a * i.size)).map (zv.cells[· % zv.cells.size]!)) (a * i.size) := by
            have hro := relO_zero (e := et) (c := a) (z4 ρ) o1 o2 (by omega)
            obtain ⟨c, e', fz, k1, _, k3⟩ := relO_cells hro
            cases k1
            refine ⟨by simp, fun j hj => ?_⟩
            obtain ⟨v, v1, v2, v3, _⟩ := k3 j hj
            exact ⟨v, by rwa [Nat.zero_add] at v1, v2, v3⟩
          obtain ⟨c', f1, f2⟩ := buildT_run (f := ac.eval) htop ps os.toList _ _ r g1 (fun j hj hk => by
            obtain ⟨p1, p2⟩ := g2 j hj hk
            exact ⟨p1, hf _ (hmem j hk) _ p2⟩) hz0 hb
          obtain ⟨e5, gg⟩ := alloc_goes hi hne (y := (i.size, a * i.size)) (o := .cells c' et) hr' (fun _ => by
            refine ⟨⟨fun _ => by rw [f2.1], fun j _ _ => by simp only; omega⟩, by omega, fun j hj => ?_⟩
            obtain ⟨v, v1, v2, v3⟩ := f2.2 j hj
            exact ⟨v, by rw [Nat.zero_add]; exact v1, v2, v3, by simp only; omega⟩)
          refine wp_val (s := Instr.buildSlice t a (os.map fun (i, x) => (i, ac.eval x))) (by simp only [execOp, hop]) ⟨_, _, _, _, _, _, e5, ?_, gg, rel_new hi hne (Nat.le_refl a)⟩
          have hle : ¬ (a * i.size > 2 ^ 24) := by omega
          have hfill : ∀ zz : Array Value, (a * i.size = 0 ∨ zz = zv.cells) → Instr.fill (fun j => some (j * i.size, i.size)) ((Array.range (a * i.size)).map (zz[· % zz.size]!)) (os.map fun (i, x) => (i, ac.eval x)).toList = some c' := by
            intro zz hzz
            rw [Array.toList_map]
            rcases hzz with h0 | rfl
            · have e0 : ∀ g : Nat → Value, (Array.range 0).map g = #[] := fun g => by simp
              rw [← f1, h0, e0, e0]
            · exact f1
          simp only [Instr.buildSlice, Sem.run_bind, run_und (hT.und hu (by simp)).1, Result.andThen_ok, run_size z2, if_neg hle]
          by_cases h0 : a * i.size = 0
          · simp only [if_pos h0, Sem.run_pure, Result.andThen_ok, hfill #[] (.inl h0), run_newRow, Sem.run_bind]
          · simp only [if_neg h0, Sem.run_bind, run_zero z2 z3, Sem.run_pure, Result.andThen_ok, hfill zv.cells (.inr rfl), run_newRow]
  | _ => rw [hu] at hr; revert hr; cases lowElems ds os.toList <;> intro hr <;> exact absurd hr.symm hne
end
end
end Go.VE
namespace Go.VE
noncomputable section
open Go
def RelB (x : Nat) (c : Array Value) (n : Nat) : Prop := c.size = n ∧ ∃ l, packs l n x ∧ ∀ i (hi : i < l.length), c[i]? = some (.int .u8 (l[i]'hi).toNat)
theorem relB_lay {x : Nat} {c : Array Value} {n i m : Nat} (h : RelB x c n) (hi : i < n) (hm : m < 256) : RelB (layB n x i 1 m) (setRow c i [.int .u8 (m : Int)]) n := by
  obtain ⟨h1, l, h2, h3⟩ := h
  have hlen := h2.1
  refine ⟨by rw [setRow_size]; exact h1, _, packs_lay h2 (packs_one hm) (by omega), fun j hj => ?_⟩
  have hj' : j < n := by simp at hj; omega
  rw [setRow_get _ _ _ _ (by simp; omega)]
  simp only [List.length_singleton]
  by_cases e : i ≤ j ∧ j < i + 1
  · have : j = i := by omega
    subst this
    rw [if_pos e, Nat.sub_self]
    simp only [List.getElem_append, List.length_append, List.length_take]
    simp only [List.length_singleton, List.getElem?_cons_zero]
    rw [dif_pos (by omega), dif_neg (by omega)]
    simp
    omega
  · rw [if_neg e]
    have hg := h3 j (by omega)
    rw [hg]
    simp only [List.getElem_append, List.length_append, List.length_take, List.length_singleton]
    by_cases h4 : j < i
    · rw [dif_pos (by omega), dif_pos (by omega)]; simp
    · rw [dif_neg (by omega)]
      simp only [List.getElem_drop]
      congr 5
      omega
theorem buildB_run {ρ : Mp} {ls : List AV} {e : Env} {f : Operand → Value} {n : Nat} : ∀ (ps : List (Nat × Sx)) (os : List (Nat × Operand)) (x : Nat) (c : Array Value) (r : Nat), ps.length = os.length →
    (∀ j (hj : j < ps.length) (hk : j < os.length), (ps[j]'hj).1 = (os[j]'hk).1 ∧ rel ρ ((ps[j]'hj).2 ls e) (f (os[j]'hk).2)) →
    RelB x c n → buildB ls e n ps x = some r → ∃ c', Instr.fill (fun i => some (i * 1, 1)) c (os.map fun (i, x) => (i, f x)) = some c' ∧ RelB r c' n
  | [], [], x, c, r, _, _, hl, e1 => by cases e1; exact ⟨c, rfl, hl⟩
  | [], _ :: _, _, _, _, h, _, _, _ => by cases h
  | _ :: _, [], _, _, _, h, _, _, _ => by cases h
  | (i, s) :: ps, (i', x) :: os, t, c, r, h, hp, hl, e1 => by
    obtain ⟨h0, h1⟩ := hp 0 (by simp) (by simp)
    simp only [List.getElem_cons_zero] at h0 h1
    subst h0
    simp only [buildB] at e1
    split at e1
    · rename_i m hm
      obtain ⟨g3, e4⟩ := br_some e1
      rw [Nat.blt_eq] at g3
      rw [hm] at h1
      obtain ⟨kd, mm, hk, hv, hu, hin⟩ := int_inv' h1
      have hkd : kd = .u8 := by cases kd <;> first | rfl | (exact absurd hk (by decide))
      subst hkd
      have hmm : (m : Int) = mm ∧ m < 256 := by
        have h5 := hin.1; have h6 := hin.2
        have h7 : IntKind.u8.min = 0 := by decide
        have h8 : IntKind.u8.max = 255 := by decide
        rw [h7] at h5; rw [h8] at h6
        rw [hu]
        simp only [encI, kindN, moN]
        omega
      have hfv : f x = .int .u8 (m : Int) := by rw [hv, hmm.1]
      simp only [List.map_cons]
      rw [fill_one (off := i * 1) (size := 1) rfl (by rw [hfv]; rfl) (by rw [hl.1]; omega)]
      refine buildB_run (ρ := ρ) ps os _ _ r (by simpa using h) (fun j hj hk => ?_) ?_ e4
      · have := hp (j + 1) (by simp; omega) (by simp; omega)
        simpa using this
      · rw [hfv, Nat.mul_one]
        exact relB_lay hl g3 hmm.2
    · cases e1
section
variable {P : Program} {tb : Tb} {o : Oper}
theorem ok_buildBs {t : TypeId} {a : Nat} {os : Array (Nat × Operand)} (hT : TbOk P tb) (hop : o.op = .buildSlice t a os) (ho : ∀ et, und tb t = .slice et → isU8 tb et = true ∧ ∃ i, tb.types.get (et + 1) = some i ∧ i.zero = some (.int .u8 0) ∧ i.size = 1 ∧ a ≤ 2 ^ 24) : OpOk P tb o := by
  intro ds ls e ac ρ h n w call k rr Q hc hf hi hr hne
  rw [hop] at hr
  simp only [lowOp] at hr
  have hmem : ∀ j (hk : j < os.toList.length), (os.toList[j]'hk).2 ∈ o.op.operands := by
    intro j hk
    rw [hop]
    simp only [Op.operands]
    simp only [List.mem_toArray, List.mem_map]
    exact ⟨os.toList[j], List.getElem_mem _, rfl⟩
  cases hu : und tb t with
  | slice et =>
    obtain ⟨h8, i, hget, hz0, hsz, hbd⟩ := ho et hu
    cases hl : lowElems ds os.toList with
    | none => rw [hu, hl] at hr; exact absurd hr.symm hne
    | some ps =>
      rw [hu, hl] at hr
      simp only at hr
      cases hz : zeroL tb et with
      | none => rw [hz] at hr; exact absurd hr.symm hne
      | some z =>
        rw [hz] at hr
        simp only at hr
        rw [h8, cond_true] at hr
        have z2 := hT.info _ _ hget
        have hr' : newSl a a (mapO (.bytes a) (buildB ls e a ps 0)) h n k = rr := hr
        cases hb : buildB ls e a ps 0 with
        | none => rw [hb] at hr'; exact absurd hr'.symm hne
        | some r =>
          rw [hb] at hr'
          simp only [mapO, newSl] at hr'
          obtain ⟨g1, g2⟩ := lowElems_spec hl
          have hbig : (2 : Nat) ^ 24 = 16777216 := by decide
          have hzz : RelB 0 ((Array.range (a * 1)).map ((Value.int .u8 0).cells[· % (Value.int .u8 0).cells.size]!)) a := by
            refine ⟨by simp, List.replicate a 0, packs_zero a, fun j hj => ?_⟩
            have hro := relO_zeroB (ρ := ρ) (e := et) (c := a) (zs := (Value.int .u8 0).cells) rfl (by omega)
            obtain ⟨_, _, l, k1, k2⟩ := hro
            have hll := packs_inj k1 (packs_zero a)
            subst hll
            have := (k2 j hj).1
            rwa [Nat.zero_add] at this
          obtain ⟨c', f1, f2⟩ := buildB_run (f := ac.eval) (ρ := ρ) ps os.toList _ _ r g1 (fun j hj hk => by
            obtain ⟨p1, p2⟩ := g2 j hj hk
            exact ⟨p1, hf _ (hmem j hk) _ p2⟩) hzz hb
          obtain ⟨e5, gg⟩ := alloc_goes hi hne (y := (1, a)) (o := .cells c' et) hr' (fun _ => by
            obtain ⟨q1, l, q2, q3⟩ := f2
            refine ⟨⟨by rw [q1], fun j _ _ => by simp only; omega⟩, by omega, l, q2, fun j hj => ⟨by rw [Nat.zero_add]; exact q3 j hj, by simp only; omega⟩⟩)
          refine wp_val (s := Instr.buildSlice t a (os.map fun (i, x) => (i, ac.eval x))) (by simp only [execOp, hop]) ⟨_, _, _, _, _, _, e5, ?_, gg, rel_new hi hne (Nat.le_refl a)⟩
          have hle : ¬ (a * 1 > 2 ^ 24) := by omega
          have hfill : ∀ zz : Array Value, (a * 1 = 0 ∨ zz = (Value.int .u8 0).cells) → Instr.fill (fun j => some (j * 1, 1)) ((Array.range (a * 1)).map (zz[· % zz.size]!)) (os.map fun (i, x) => (i, ac.eval x)).toList = some c' := by
            intro zz hzz
            rw [Array.toList_map]
            rcases hzz with h0 | rfl
            · have e0 : ∀ g : Nat → Value, (Array.range 0).map g = #[] := fun g => by simp
              rw [← f1, h0, e0, e0]
            · exact f1
          simp only [Instr.buildSlice, Sem.run_bind, run_und (hT.und hu (by simp)).1, Result.andThen_ok, run_size z2, hsz, if_neg hle]
          by_cases h0 : a * 1 = 0
          · simp only [if_pos h0, Sem.run_pure, Result.andThen_ok, hfill #[] (.inl h0), run_newRow, Sem.run_bind]
          · simp only [if_neg h0, Sem.run_bind, run_zero z2 hz0, Sem.run_pure, Result.andThen_ok, hfill _ (.inr rfl), run_newRow]
  | _ => rw [hu] at hr; revert hr; cases lowElems ds os.toList <;> intro hr <;> exact absurd hr.symm hne
end
end
end Go.VE
namespace Go.VE
noncomputable section
open Go
def validT (tb : Tb) (t : TypeId) : Bool := match und tb t with | .invalid => false | _ => true
theorem validT_of {tb : Tb} {t : TypeId} (h : validT tb t = true) : und tb t ≠ .invalid := fun e => by unfold validT at h; rw [e] at h; cases h
def zeroOk (tb : Tb) (t : TypeId) : Bool := match zeroL tb t with | some z => okCs z | none => true
theorem zeroOk_of {tb : Tb} {t : TypeId} (h : zeroOk tb t = true) : ∀ z, zeroL tb t = some z → okCs z = true := fun z hz => by unfold zeroOk at h; rw [hz] at h; exact h
def fieldGood (tb : Tb) (t : TypeId) (f : Nat) : Bool := match und tb t with
  | .struct fs => match fs[f]? with | some fd => validT tb fd.type | none => true
  | _ => true
def elemGood (tb : Tb) (t : TypeId) : Bool := match und tb t with
  | .slice e => validT tb e
  | .array _ e => validT tb e
  | .pointer p => match und tb p with | .array _ e => validT tb e | _ => true
  | _ => true
theorem elemGood_sl {tb : Tb} {t et : TypeId} (h : elemGood tb t = true) (hu : und tb t = .slice et) : und tb et ≠ .invalid := by unfold elemGood at h; rw [hu] at h; exact validT_of h
theorem elemGood_ar {tb : Tb} {t et : TypeId} {m : Nat} (h : elemGood tb t = true) (hu : und tb t = .array m et) : und tb et ≠ .invalid := by unfold elemGood at h; rw [hu] at h; exact validT_of h
theorem elemGood_pt {tb : Tb} {t p et : TypeId} {m : Nat} (h : elemGood tb t = true) (hu : und tb t = .pointer p) (hu2 : und tb p = .array m et) : und tb et ≠ .invalid := by
  unfold elemGood at h; rw [hu] at h; simp only at h; rw [hu2] at h; exact validT_of h
def opGood1 (tb : Tb) : Op → Bool
  | .move _ | .assign _ | .pick _ _ _ | .box _ _ | .nilCheck _ | .load _ _ | .mapUpdate _ _ _ _ | .insert _ _ _ _ | .unOp _ _ _ | .extract _ _ | .lookup _ _ _ _ | .fieldAddr _ _ _ | .convert _ _ _ | .makeFunc (.func _) _ _ => true
  | .makeMap _ r => r.isNone
  | .binOp _ t _ _ _ => match und tb t with | .struct _ => false | _ => true
  | .store t _ _ | .makeInterface t _ => validT tb t
  | .field t _ f => fieldGood tb t f
  | .indexAddr t _ _ | .index t _ _ => elemGood tb t
  | .slice t _ _ hi mx => elemGood tb t && (mx.isNone || hi.isSome)
  | .call c => match c.callee with | .value _ | .invoke _ _ => true | .builtin .min | .builtin .max => true | .builtin .len | .builtin .cap | .builtin .clear => Nat.blt 0 c.argTypes.size | _ => false
  | _ => false
section
variable {P : Program} {tb : Tb} {o : Oper}
theorem opGood1_ok (hT : TbOk P tb) (h : opGood1 tb o.op = true) : OpOk P tb o := by
  cases hop : o.op <;> rw [hop] at h <;> simp only [opGood1] at h <;> try (exact absurd h (by decide))
  case move => exact ok_move (.inl hop)
  case assign => exact ok_move (.inr hop)
  case pick => exact ok_pick hop
  case box => exact ok_box hop
  case nilCheck => exact ok_nilCheck hop
  case load => exact ok_load hT hop
  case mapUpdate => exact ok_mapSet hT (.inl hop)
  case insert => exact ok_mapSet hT (.inr hop)
  case unOp => exact ok_unOp hop
  case extract => exact ok_ext hop
  case lookup => exact ok_lookup hT hop
  case fieldAddr => exact ok_fieldAddr hT hop
  case convert s d x =>
    by_cases hs : ∃ et, und tb s = .slice et
    · exact ok_convertBs hT hop hs
    · exact ok_convert hT hop fun et he => hs ⟨et, he⟩
  case makeFunc fn _ _ =>
    cases fn <;> simp only at h <;> try (exact absurd h (by decide))
    exact ok_makeFunc hop
  case makeMap t r =>
    cases r with
    | none => exact ok_makeMap hop
    | some _ => cases h
  case binOp op t x y yt =>
    refine ok_bin hT hop fun fs hfs => ?_
    rw [hfs] at h; cases h
  case store => exact ok_store hT hop (validT_of h)
  case makeInterface => exact ok_mkIf hT hop (validT_of h)
  case field t x f =>
    refine ok_field hT hop fun fs fd hu hfd => ?_
    unfold fieldGood at h
    rw [hu] at h
    simp only at h
    rw [hfd] at h
    exact validT_of h
  case indexAddr => exact ok_indexAddr hT hop fun et he => by rcases he with he | ⟨m, he⟩; exact elemGood_sl h he; exact elemGood_ar h he
  case index => exact ok_index hT hop fun m et he => elemGood_ar h he
  case slice t x lo hi' mx =>
    rw [Bool.and_eq_true] at h
    refine ok_slice hT hop (fun hm => ?_) (fun et he => elemGood_sl h.1 he) (fun m et he => elemGood_ar h.1 he) (fun p m et he h2 => elemGood_pt h.1 he h2)
    have := h.2
    cases mx <;> simp_all
  case call c =>
    cases hc : c.callee with
    | value f => exact ok_call hop ⟨f, hc⟩
    | invoke r m => exact ok_invoke hT hop hc
    | builtin b =>
      rw [hc] at h
      cases b <;> simp only at h <;> try (exact absurd h (by decide))
      case min => exact ok_min hT hop (.inl hc)
      case max => exact ok_min hT hop (.inr hc)
      case len => exact ok_len hT hop hc (by rwa [Nat.blt_eq] at h)
      case cap => exact ok_cap hT hop hc (by rwa [Nat.blt_eq] at h)
      case clear => exact ok_clear hT hop hc (by rwa [Nat.blt_eq] at h)
end
end
end Go.VE
namespace Go.VE
noncomputable section
open Go
def isNilIf : Value → Bool | .nilIface => true | _ => false
def isZ8 : Value → Bool | .int .u8 0 => true | _ => false
def isZeroB (n : Nat) : Value → Bool
  | .agg ⟨l⟩ => Nat.beq l.length n && l.all isZ8
  | _ => false
theorem isZ8_of {v : Value} (h : isZ8 v = true) : v = .int .u8 0 := by
  unfold isZ8 at h; split at h <;> first | rfl | cases h
theorem isZeroB_of {n : Nat} {v : Value} (h : isZeroB n v = true) : v = .agg (Array.replicate n (.int .u8 0)) := by
  cases v <;> simp only [isZeroB] at h <;> try (cases h; done)
  rename_i c
  obtain ⟨l⟩ := c
  simp only [Bool.and_eq_true, List.all_eq_true] at h
  have hl := beq_n h.1
  have : l = List.replicate n (.int .u8 0) := by
    rw [List.eq_replicate_iff]
    refine ⟨hl, fun v hv => ?_⟩
    exact isZ8_of (h.2 v hv)
  rw [this]; simp
def allocGood (tb : Tb) (t : TypeId) : Bool := zeroOk tb t && (match und tb t with
  | .array n e => bif isU8 tb e then (match tb.types.get (t + 1) with | some i => (match i.zero with | some z => isZeroB n z | none => false) | none => false) else true
  | _ => true)
def mkSlGood (tb : Tb) (t : TypeId) : Bool := match und tb t with
  | .slice e => (match tb.types.get (e + 1) with
    | some i => bif isU8 tb e then (match i.zero with | some z => isZ8 z && Nat.beq i.size 1 && Nat.beq i.bytes 1 | none => false)
      else (match zeroL tb e with | some z => okCs z && Nat.beq (lenC z) i.size | none => true)
    | none => true)
  | _ => true
def buildGood (tb : Tb) (t : TypeId) : Bool := zeroOk tb t && (match und tb t with
  | .struct fs => fs.toList.all fun f => (tb.types.get (f.type + 1)).isSome
  | .array _ e => (tb.types.get (e + 1)).isSome
  | _ => true)
def asrtGood (tb : Tb) (t : TypeId) : Bool := match und tb t with
  | .invalid => false
  | .interface _ => (match tb.types.get (t + 1) with | some i => (match i.zero with | some z => isNilIf z | none => false) | none => true)
  | _ => true
section
variable {P : Program} {tb : Tb} {o : Oper}
theorem allocGood_ok {t : TypeId} (hT : TbOk P tb) (hop : o.op = .alloc t) (h : allocGood tb t = true) : OpOk P tb o := by
  unfold allocGood at h
  rw [Bool.and_eq_true] at h
  refine ok_alloc hT hop (fun n e hu h8 => ?_) (zeroOk_of h.1)
  have h2 := h.2
  rw [hu] at h2
  simp only at h2
  rw [h8, cond_true] at h2
  cases hg : tb.types.get (t + 1) with
  | none => rw [hg] at h2; cases h2
  | some i =>
    rw [hg] at h2
    simp only at h2
    cases hz : i.zero with
    | none => rw [hz] at h2; cases h2
    | some z => rw [hz] at h2; exact ⟨i, rfl, by rw [hz, isZeroB_of h2]⟩
theorem mkSlGood_ok {t : TypeId} {x y : Operand} (hT : TbOk P tb) (hop : o.op = .makeSlice t x y) (h : mkSlGood tb t = true) : OpOk P tb o := by
  refine ok_makeSlice hT hop (fun et i hu hg h8 => ?_) (fun et i z hu hg hz => ?_)
  · unfold mkSlGood at h
    rw [hu] at h
    simp only at h
    rw [hg] at h
    simp only at h
    rw [h8, cond_true] at h
    cases hz : i.zero with
    | none => rw [hz] at h; cases h
    | some z =>
      rw [hz] at h
      simp only [Bool.and_eq_true] at h
      exact ⟨by rw [isZ8_of h.1.1], beq_n h.1.2, beq_n h.2⟩
  · unfold mkSlGood at h
    rw [hu] at h
    simp only at h
    rw [hg] at h
    simp only at h
    cases h8 : isU8 tb et with
    | true =>
      rw [h8, cond_true] at h
      cases hz2 : i.zero with
      | none => rw [hz2] at h; cases h
      | some zv =>
        rw [hz2] at h
        simp only [Bool.and_eq_true] at h
        have e1 := isZ8_of h.1.1
        unfold zeroL zeroA at hz
        rw [hg] at hz
        simp only [hz2, Option.bind_some, e1] at hz
        have : lowV (.int .u8 0) = some (.int 4 0) := rfl
        rw [this] at hz
        cases hz
        exact ⟨rfl, by rw [beq_n h.1.2]; rfl⟩
    | false =>
      rw [h8, cond_false, hz] at h
      simp only [Bool.and_eq_true] at h
      exact ⟨h.1, beq_n h.2⟩
theorem buildGood_ok {t : TypeId} {os : Array (Nat × Operand)} (hT : TbOk P tb) (hop : o.op = .build t os) (h : buildGood tb t = true) : OpOk P tb o := by
  unfold buildGood at h
  rw [Bool.and_eq_true] at h
  refine ok_build hT hop (zeroOk_of h.1) (fun fs hu f hf => ?_) (fun m et hu => ?_)
  · have h2 := h.2
    rw [hu] at h2
    simp only [List.all_eq_true] at h2
    exact Option.isSome_iff_exists.1 (h2 f (by simpa using hf))
  · have h2 := h.2
    rw [hu] at h2
    exact Option.isSome_iff_exists.1 h2
theorem asrtGood_ok {x : Operand} {t t' : TypeId} (hT : TbOk P tb) (hop : o.op = .typeAssert x t' t true) (h : asrtGood tb t = true) : OpOk P tb o := by
  unfold asrtGood at h
  by_cases hi : ∃ ms, und tb t = .interface ms
  · obtain ⟨ms, hu⟩ := hi
    rw [hu] at h
    refine ok_asrtI hT hop hu fun i hg => ?_
    simp only at h
    rw [hg] at h
    simp only at h
    cases hz : i.zero with
    | none => rw [hz] at h; cases h
    | some z => rw [hz] at h; cases z <;> first | rfl | cases h
  · refine ok_asrtT hT hop (fun ms hu => hi ⟨ms, hu⟩) fun e => ?_
    rw [e] at h; cases h
end
end
end Go.VE
namespace Go.VE
noncomputable section
open Go
def appGood (tb : Tb) (ats : Array TypeId) : Bool := Nat.beq ats.size 2 && (match und tb (ats.getD 1 0) with | .int _ => false | _ => true) && (match und tb (ats.getD 0 0) with
  | .slice e => (match tb.types.get (e + 1) with | some i => (match i.zero with | some z => Nat.beq z.cells.size i.size | none => true) | none => true)
  | _ => true)
def copyGood (tb : Tb) (ats : Array TypeId) : Bool := Nat.blt 0 ats.size && (match und tb (ats.getD 0 0) with | .slice e => validT tb e && Nat.beq (size tb e) 1 | _ => true)
def bslGood (tb : Tb) (t : TypeId) (a : Nat) : Bool := match und tb t with
  | .slice e => (match tb.types.get (e + 1) with
    | some i => bif isU8 tb e then (match i.zero with | some z => isZ8 z && Nat.beq i.size 1 && Nat.ble a 16777216 | none => false)
      else (match zeroL tb e with | some z => okCs z && Nat.beq (lenC z) i.size && Nat.ble (a * i.size) 16777216 | none => true)
    | none => false)
  | _ => true
def isBad : Op → Bool
  | .panic _ | .go _ | .defer _ | .range _ _ | .next _ _ | .entry _ | .mapEntry _ _ _ | .entryStore _ _ _ _ | .recv _ _ _ | .send _ _ | .select _ _ | .makeChan _ _ | .ready _ | .waits _ | .sliceToArrayPointer _ _ => true
  | .typeAssert _ _ _ ok => !ok
  | .makeMap _ r => r.isSome
  | _ => false
def opGood (tb : Tb) (o : Op) : Bool := opGood1 tb o || isBad o || (match o with
  | .alloc t => allocGood tb t
  | .makeSlice t _ _ => mkSlGood tb t
  | .build t _ => buildGood tb t
  | .buildSlice t a _ => bslGood tb t a
  | .typeAssert _ _ t true => asrtGood tb t
  | .call c => (match c.callee with | .builtin .append => appGood tb c.argTypes | .builtin .copy => copyGood tb c.argTypes | _ => false)
  | _ => false)
section
variable {P : Program} {tb : Tb} {o : Oper}
theorem isBad_ok (h : isBad o.op = true) : OpOk P tb o := by
  intro ds ls e a ρ h' n w call k rr Q hc hf hi hr hne
  have : lowOp ds tb o.op = oBad := by
    generalize o.op = p at h
    cases p <;> simp only [isBad] at h <;> first | (cases h; done) | rfl | skip
    case typeAssert _ _ _ ok => cases ok <;> first | rfl | cases h
    case makeMap _ r => cases r <;> first | rfl | cases h
  rw [this] at hr
  exact absurd hr.symm hne
theorem bslGood_ok {t : TypeId} {a : Nat} {os : Array (Nat × Operand)} (hT : TbOk P tb) (hop : o.op = .buildSlice t a os) (h : bslGood tb t a = true) : OpOk P tb o := by
  have hbig : (2 : Nat) ^ 24 = 16777216 := by decide
  by_cases h8 : ∃ et, und tb t = .slice et ∧ isU8 tb et = true
  · obtain ⟨et, hu, h8⟩ := h8
    refine ok_buildBs hT hop fun et' hu' => ?_
    rw [hu] at hu'; cases hu'
    unfold bslGood at h
    rw [hu] at h
    simp only at h
    cases hg : tb.types.get (et + 1) with
    | none => rw [hg] at h; cases h
    | some i =>
      rw [hg] at h
      simp only at h
      rw [h8, cond_true] at h
      cases hz : i.zero with
      | none => rw [hz] at h; cases h
      | some z =>
        rw [hz] at h
        simp only [Bool.and_eq_true] at h
        exact ⟨h8, i, rfl, by rw [hz, isZ8_of h.1.1], beq_n h.1.2, by rw [hbig]; exact Nat.le_of_ble_eq_true h.2⟩
  · refine ok_buildSlice hT hop (fun et hu => ?_) fun et z i hu hz hg => ?_
    · cases h1 : isU8 tb et with
      | false => rfl
      | true => exact absurd ⟨et, hu, h1⟩ h8
    · have h1 : isU8 tb et = false := by
        cases h1 : isU8 tb et with
        | false => rfl
        | true => exact absurd ⟨et, hu, h1⟩ h8
      unfold bslGood at h
      rw [hu] at h
      simp only at h
      rw [hg] at h
      simp only at h
      rw [h1, cond_false, hz] at h
      simp only [Bool.and_eq_true] at h
      exact ⟨h.1.1, beq_n h.1.2, by rw [hbig]; exact Nat.le_of_ble_eq_true h.2⟩
theorem appGood_ok {c : Call} (hT : TbOk P tb) (hop : o.op = .call c) (hcb : c.callee = .builtin .append) (h : appGood tb c.argTypes = true) : OpOk P tb o := by
  unfold appGood at h
  rw [Bool.and_eq_true, Bool.and_eq_true] at h
  refine ok_append hT hop hcb (beq_n h.1.1) (fun k hk => ?_) fun et i zv hu hg hz => ?_
  · have := h.1.2
    rw [hk] at this; cases this
  · have := h.2
    rw [hu] at this
    simp only at this
    rw [hg] at this
    simp only at this
    rw [hz] at this
    exact beq_n this
theorem copyGood_ok {c : Call} (hT : TbOk P tb) (hop : o.op = .call c) (hcb : c.callee = .builtin .copy) (h : copyGood tb c.argTypes = true) : OpOk P tb o := by
  unfold copyGood at h
  rw [Bool.and_eq_true] at h
  refine ok_copy hT hop hcb (by have := h.1; rwa [Nat.blt_eq] at this) fun et hu => ?_
  have := h.2
  rw [hu] at this
  simp only [Bool.and_eq_true] at this
  exact ⟨validT_of this.1, beq_n this.2⟩
theorem opGood_ok (hT : TbOk P tb) (h : opGood tb o.op = true) : OpOk P tb o := by
  unfold opGood at h
  rw [Bool.or_eq_true, Bool.or_eq_true] at h
  rcases h with (h | h) | h
  · exact opGood1_ok hT h
  · exact isBad_ok h
  · cases hop : o.op <;> rw [hop] at h <;> try (cases h; done)
    case alloc => exact allocGood_ok hT hop h
    case makeSlice => exact mkSlGood_ok hT hop h
    case build => exact buildGood_ok hT hop h
    case buildSlice => exact bslGood_ok hT hop h
    case typeAssert x t' t ok =>
      cases ok
      · cases h
      · exact asrtGood_ok hT hop h
    case call c =>
      simp only at h
      cases hc : c.callee with
      | value f => rw [hc] at h; cases h
      | invoke r m => rw [hc] at h; cases h
      | builtin b =>
        rw [hc] at h
        cases b <;> try (cases h; done)
        case append => exact appGood_ok hT hop hc h
        case copy => exact copyGood_ok hT hop hc h
end
end
end Go.VE
namespace Go.VE
noncomputable section
open Go
theorem fin_alloc {ao : AO} {v0 : Nat → AV} {h : H} {n : Nat} {v : AV} {h' : H} {n' : Nat} (e : (alloc ao h n fun h' m => finK (v0 n) h' m) = .fin v h' n') : n < top ∧ fitO ao = true ∧ v = v0 n ∧ h' = setO h n ao ∧ n' = n + 1 := by
  obtain ⟨h1, h2, h3⟩ := alloc_inv e (by simp)
  injection h3 with e1 e2 e3
  exact ⟨h1, h2, e1.symm, e2.symm, e3.symm⟩
section
variable {P : Program} {tb : Tb} {o : Oper}
theorem run_alloc {t : TypeId} {i : TypeInfo} {z : Value} {w : World} (hin : P.info? t = some i) (hz : i.zero = some z) : (Instr.alloc t true (.tuple #[])).run P w = .ok (.pointer (some ⟨w.heap.size, 0, none⟩)) (w.alloc (.cells z.cells t)) := by
  simp only [Instr.alloc, Sem.run_bind, run_zero hin hz, Result.andThen_ok, newVar, run_newRow, Sem.run_pure]
theorem run_value {s : Sem Value} {w w' : World} {rv : Value} {a : Act} (hx : execOp a.eval o = (do pure (Next.value (← s)))) (h : s.run P w = .ok rv w') : (execOp a.eval o).run P w = .ok (.value rv) w' := by
  rw [hx]
  simp only [Sem.run_bind, h, Result.andThen_ok, Sem.run_pure]
theorem float_alloc {t : TypeId} (hT : TbOk P tb) (hop : o.op = .alloc t) (h8 : ∀ n e, und tb t = .array n e → isU8 tb e = true → ∃ i, tb.types.get (t + 1) = some i ∧ i.zero = some (.agg (Array.replicate n (.int .u8 0))))
    (ho : ∀ z, zeroL tb t = some z → okCs z = true) : FloatOk P tb o := by
  intro ds ls e a ρ n w call h v h' n' hf hr
  rw [hop] at hr
  have gen : (match zeroL tb t with | some z => oNew (.cells (lenC z) 0 (listT z 0 .nil)) | none => oBad) call ls e h n finK = .fin v h' n' →
      ∃ ao o_ y rv, n < top ∧ h' = setO h n ao ∧ n' = n + 1 ∧ relO ρ y ao (some o_) 0 ∧ (∀ σ : Mp, σ n = some (w.heap.size, 0) → σ.g n = y → rel σ v rv) ∧ (execOp a.eval o).run P w = .ok (.value rv) (w.alloc o_) := fun h0 => by
    cases hz : zeroL tb t with
    | none => rw [hz] at h0; cases h0
    | some z =>
      rw [hz] at h0
      obtain ⟨i, zv, _, z2, z3, z4⟩ := zeroL_of hT hz (ho z hz)
      obtain ⟨k1, k2, rfl, rfl, rfl⟩ := fin_alloc (v0 := fun n => .ptr n 0) h0
      refine ⟨_, .cells zv.cells t, (0, 0), _, k1, rfl, rfl, relO_chain (z4 ρ) (ho z hz) (by simpa [fitO] using k2), fun σ hσ _ => rel_ptr hσ, run_value (by simp only [execOp, hop]) (run_alloc z2 z3)⟩
  by_cases harr : ∃ m e', und tb t = .array m e' ∧ isU8 tb e' = true
  · obtain ⟨m, e', hu, h1⟩ := harr
    simp only [lowOp] at hr
    rw [hu] at hr
    simp only at hr
    rw [h1, cond_true] at hr
    obtain ⟨i, g1, g2⟩ := h8 m e' hu h1
    obtain ⟨k1, k2, rfl, rfl, rfl⟩ := fin_alloc (v0 := fun n => .ptr n 0) hr
    exact ⟨_, .cells (Array.replicate m (.int .u8 0)) t, _, _, k1, rfl, rfl, relO_bs (packs_zero m) (by simpa [fitO] using k2) (fun i hi => by simp at hi; simp [hi]) (fun i hi => by simp only; omega), fun σ hσ _ => rel_ptr hσ,
      run_value (by simp only [execOp, hop]) (run_alloc (hT.info _ _ g1) g2)⟩
  · refine gen ?_
    simp only [lowOp] at hr
    cases hu : und tb t with
    | array m e' =>
      rw [hu] at hr
      simp only at hr
      have h1 : isU8 tb e' = false := by
        cases h1 : isU8 tb e' with
        | false => rfl
        | true => exact absurd ⟨m, e', hu, h1⟩ harr
      rw [h1, cond_false] at hr
      exact hr
    | _ => rw [hu] at hr; exact hr
theorem float_buildSlice {t : TypeId} {a : Nat} {os : Array (Nat × Operand)} (hT : TbOk P tb) (hop : o.op = .buildSlice t a os) (h8 : ∀ et, und tb t = .slice et → isU8 tb et = false)
    (ho : ∀ et z i, und tb t = .slice et → zeroL tb et = some z → tb.types.get (et + 1) = some i → okCs z = true ∧ lenC z = i.size ∧ a * i.size ≤ 2 ^ 24) : FloatOk P tb o := by
  intro ds ls e ac ρ n w call h v h' n' hf hr
  have hne : (RR.fin v h' n') ≠ .fail := by simp
  rw [hop] at hr
  simp only [lowOp] at hr
  have hmem : ∀ j (hk : j < os.toList.length), (os.toList[j]'hk).2 ∈ o.op.operands := by
    intro j hk
    rw [hop]
    simp only [Op.operands]
    simp only [List.mem_toArray, List.mem_map]
    exact ⟨os.toList[j], List.getElem_mem _, rfl⟩
  cases hu : und tb t with
  | slice et =>
    cases hl : lowElems ds os.toList with
    | none => rw [hu, hl] at hr; exact absurd hr.symm hne
    | some ps =>
      rw [hu, hl] at hr
      simp only at hr
      cases hz : zeroL tb et with
      | none => rw [hz] at hr; exact absurd hr.symm hne
      | some z =>
        rw [hz] at hr
        simp only at hr
        rw [h8 et hu, cond_false] at hr
        have hget : ∃ i, tb.types.get (et + 1) = some i := by
          unfold zeroL at hz
          cases hza : zeroA tb et with
          | none => rw [hza] at hz; cases hz
          | some z' => obtain ⟨i, _, g1, _⟩ := zeroA_of hT hza; exact ⟨i, g1⟩
        obtain ⟨i, hget⟩ := hget
        obtain ⟨o1, o2, o3⟩ := ho et z i hu hz hget
        obtain ⟨i', zv, z1, z2, z3, z4⟩ := zeroL_of hT hz o1
        rw [hget] at z1; cases z1
        rw [size_of hget] at hr
        have hr' : newSl a a (mapO (.cells (a * i.size) i.size) (buildT ls e i.size a ps (zeroT z i.size a))) h n finK = .fin v h' n' := hr
        cases hb : buildT ls e i.size a ps (zeroT z i.size a) with
        | none => rw [hb] at hr'; exact absurd hr'.symm hne
        | some r =>
          rw [hb] at hr'
          simp only [mapO, newSl] at hr'
          obtain ⟨k1, k2, rfl, rfl, rfl⟩ := fin_alloc (v0 := fun n => .sl n 0 a a true) hr'
          obtain ⟨g1, g2⟩ := lowElems_spec hl
          have hbig : (2 : Nat) ^ 24 = 16777216 := by decide
          have htop : a * i.size ≤ top := by unfold top; omega
          have hz0 : RelT ρ (zeroT z i.size a) ((Array.range (a * i.size)).map (zv.cells[· % zv.cells.size]!)) (a * i.size) := by
            have hro := relO_zero (e := et) (c := a) (z4 ρ) o1 o2 (by omega)
            obtain ⟨c, e', fz, k1, _, k3⟩ := relO_cells hro
            cases k1
            refine ⟨by simp, fun j hj => ?_⟩
            obtain ⟨v, v1, v2, v3, _⟩ := k3 j hj
            exact ⟨v, by rwa [Nat.zero_add] at v1, v2, v3⟩
          obtain ⟨c', f1, f2⟩ := buildT_run (f := ac.eval) htop ps os.toList _ _ r g1 (fun j hj hk => by
            obtain ⟨p1, p2⟩ := g2 j hj hk
            exact ⟨p1, hf _ (hmem j hk) _ p2⟩) hz0 hb
          refine ⟨_, .cells c' et, (i.size, a * i.size), .slice (some ⟨w.heap.size, 0, none⟩) a a, k1, rfl, rfl, ?_, fun σ hσ _ => ?_, run_value (s := Instr.buildSlice t a (os.map fun (i, x) => (i, ac.eval x))) (by simp only [execOp, hop]) ?_⟩
          · refine ⟨⟨fun _ => by rw [f2.1], fun j _ _ => by simp only; omega⟩, by omega, fun j hj => ?_⟩
            obtain ⟨v, v1, v2, v3⟩ := f2.2 j hj
            exact ⟨v, by rw [Nat.zero_add]; exact v1, v2, v3, by simp only; omega⟩
          · simp only [rel]
            exact ⟨w.heap.size, 0, 0, a, hσ, rfl, Nat.le_refl _, Nat.le_refl _, fun _ => rfl, .inl rfl, fun h => by cases h⟩
          have hle : ¬ (a * i.size > 2 ^ 24) := by omega
          have hfill : ∀ zz : Array Value, (a * i.size = 0 ∨ zz = zv.cells) → Instr.fill (fun j => some (j * i.size, i.size)) ((Array.range (a * i.size)).map (zz[· % zz.size]!)) (os.map fun (i, x) => (i, ac.eval x)).toList = some c' := by
            intro zz hzz
            rw [Array.toList_map]
            rcases hzz with h0 | rfl
            · have e0 : ∀ g : Nat → Value, (Array.range 0).map g = #[] := fun g => by simp
              rw [← f1, h0, e0, e0]
            · exact f1
          simp only [Instr.buildSlice, Sem.run_bind, run_und (hT.und hu (by simp)).1, Result.andThen_ok, run_size z2, if_neg hle]
          by_cases h0 : a * i.size = 0
          · simp only [if_pos h0, Sem.run_pure, Result.andThen_ok, hfill #[] (.inl h0), run_newRow, Sem.run_bind]
          · simp only [if_neg h0, Sem.run_bind, run_zero z2 z3, Sem.run_pure, Result.andThen_ok, hfill zv.cells (.inr rfl), run_newRow]
  | _ => rw [hu] at hr; revert hr; cases lowElems ds os.toList <;> intro hr <;> exact absurd hr.symm hne
theorem float_ok (hT : TbOk P tb) (h : opGood tb o.op = true) (hk : fltKind tb o.op = true) : FloatOk P tb o := by
  cases hop : o.op <;> rw [hop] at h hk <;> first | (exact absurd (show false = true from hk) (by decide)) | skip
  case alloc t =>
    have h : allocGood tb t = true := by simpa [opGood, opGood1, isBad] using h
    unfold allocGood at h
    rw [Bool.and_eq_true] at h
    refine float_alloc hT hop (fun n e hu h8 => ?_) (zeroOk_of h.1)
    have h2 := h.2
    rw [hu] at h2
    simp only at h2
    rw [h8, cond_true] at h2
    cases hg : tb.types.get (t + 1) with
    | none => rw [hg] at h2; cases h2
    | some i =>
      rw [hg] at h2
      simp only at h2
      cases hz : i.zero with
      | none => rw [hz] at h2; cases h2
      | some z => rw [hz] at h2; exact ⟨i, rfl, by rw [hz, isZeroB_of h2]⟩
  case buildSlice t a os =>
    have h : bslGood tb t a = true := by simpa [opGood, opGood1, isBad] using h
    have hbig : (2 : Nat) ^ 24 = 16777216 := by decide
    simp only [fltKind] at hk
    have h8 : ∀ et, und tb t = .slice et → isU8 tb et = false := fun et hu => by
      rw [hu] at hk; simpa using hk
    refine float_buildSlice hT hop h8 fun et z i hu hz hg => ?_
    unfold bslGood at h
    rw [hu] at h
    simp only at h
    rw [hg] at h
    simp only at h
    rw [h8 et hu, cond_false, hz] at h
    simp only [Bool.and_eq_true] at h
    exact ⟨h.1.1, beq_n h.1.2, by rw [hbig]; exact Nat.le_of_ble_eq_true h.2⟩
end
end
end Go.VE
