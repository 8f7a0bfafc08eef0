/- The evaluator, part 11: definitions and their laws, over any program. No condition. -/
import Derived.StillTail
import Derived.Test.YtidmnoafhdhhlaaGreatDoorVE10
set_option linter.all false
namespace Go.VE
noncomputable section
open Go
section
variable {P : Program} {tb : Tb} {nt : Nat} {g : List Nat} {ops : Array Oper} {call : CallT} {e0 : Env} {V : Nat → AV} {S : Nat → H × Nat} {a0 : Act} {ρ0 : Mp} {h0 : H} {n0 : Nat} {w0 : World} {r : Option Nat} {m : Nat}
theorem eff_first {tb : Tb} {ops : Array Oper} {listed : Array Bool} (q f : Nat) : (∃ c, q ≤ c ∧ c < f ∧ IsEff tb ops c ∧ listed.getD c false = false) ∨ (∀ c, q ≤ c → c < f → IsEff tb ops c → listed.getD c false = true) := by
  by_cases h : ∃ c, q ≤ c ∧ c < f ∧ IsEff tb ops c ∧ listed.getD c false = false
  · exact .inl h
  · refine .inr fun c h1 h2 h3 => ?_
    cases hl : listed.getD c false with
    | true => rfl
    | false => exact absurd ⟨c, h1, h2, h3, hl⟩ h
theorem Goes.adopt {ρ σ : Mp} {h h' : H} {n n' : Nat} {w w' : World} (hG : Goes ρ h n w σ h' n' w') {r : Nat} {ao : AO} {o : Obj} {y : Nat × Nat} (hkg : KG ≤ w.heap.size) (hr : w.heap.size ≤ r) (ho : w'.heap[r]? = some o) (hl : ¬ live σ h' r) (hn : n' < top) (hrel : relO σ y ao (some o) 0) :
    Goes ρ h n w (σ.ext n' (r, 0) y) (setO h' n' ao) (n' + 1) w' := by
  have hi := hG.inv
  have hle : σ.le (σ.ext n' (r, 0) y) := Mp.ext_le hi.fresh
  have hown : ∀ c q z, getO h' c = some q → σ c = some (r, z) → False := fun c q z hc h2 => by
    rcases Nat.lt_or_ge c KG with hck | hck
    · have := hi.st c hck
      rw [h2] at this; cases this; omega
    · exact hl ⟨c, q, z, hck, hc, h2⟩
  have hrl : r < w'.heap.size := (Array.getElem?_eq_some_iff.1 ho).1
  refine ⟨⟨fun b p hb => ?_, fun b c p q s x y hb hc h1 h2 => ?_, fun b hb => ?_, fun b s x hb => ?_, by unfold top at hn; omega, fun i hk => hle.at_ _ _ (hi.st i hk)⟩, Mp.le_trans hG.le hle, by have := hG.next; omega, hG.size, hG.keep, fun s hs hl' => ?_, hG.io⟩
  · rw [getO_setO hn] at hb
    split at hb
    · rename_i e1; subst e1
      cases hb
      exact ⟨_, _, Mp.ext_same _ _ _ _, by rw [ho, Mp.ext_sameG]; exact relO_mono hle hrel⟩
    · rename_i hbn
      obtain ⟨s, x, h1, h2⟩ := hi.obj b p hb
      exact ⟨s, x, hle.at_ _ _ h1, by rw [Mp.ext_otherG hbn]; exact relO_mono hle h2⟩
  · rw [getO_setO hn] at hb hc
    by_cases hbn : b = n' <;> by_cases hcn : c = n'
    · rw [hbn, hcn]
    · subst hbn; rw [Mp.ext_same] at h1; rw [Mp.ext_other hcn] at h2; rw [if_neg hcn] at hc
      cases h1
      exact (hown c q _ hc h2).elim
    · subst hcn; rw [Mp.ext_other hbn] at h1; rw [Mp.ext_same] at h2; rw [if_neg hbn] at hb
      cases h2
      exact (hown b p _ hb h1).elim
    · rw [Mp.ext_other hbn] at h1; rw [if_neg hbn] at hb; rw [Mp.ext_other hcn] at h2; rw [if_neg hcn] at hc
      exact hi.inj _ _ _ _ _ _ _ hb hc h1 h2
  · by_cases hbn : b = n'
    · omega
    · rw [Mp.ext_other hbn] at hb
      have := hi.dom b hb; omega
  · by_cases hbn : b = n'
    · subst hbn; rw [Mp.ext_same] at hb; cases hb; exact hrl
    · rw [Mp.ext_other hbn] at hb
      exact hi.rng _ _ _ hb
  · obtain ⟨b, p, x, hkb, h1, h2⟩ := hl'
    rw [getO_setO hn] at h1
    by_cases hbn : b = n'
    · subst hbn; rw [Mp.ext_same] at h2; cases h2; omega
    · rw [if_neg hbn] at h1; rw [Mp.ext_other hbn] at h2
      exact hG.lives s hs ⟨b, p, x, hkb, h1, h2⟩
theorem Pend.next {ρ σ : Mp} {q q' : Nat} {a : Act} {w w' : World} (hP : Pend tb ops V S w0 ρ q a w) (hF : Facts tb nt g ops call e0 V S) (hsz : ∀ d, d < nt → d < a.tmps.size) {i : Nat} {o : Oper} (ho : ops[i]? = some o) (hne : i ≠ flt tb ops) (hdst : okDst nt o.dst = true) {rv : Value}
    (hle : ρ.le σ) (hheld : ∀ r o_, w.heap[r]? = some o_ → ¬ live ρ (S q).1 r → w'.heap[r]? = some o_ ∧ ¬ live σ (S q').1 r) : Pend tb ops V S w0 σ q' (a.put o.dst rv) w' := by
  obtain ⟨of, ao, o_, y, rvf, r, h1, h2, h3, h4, h5, h6, h7, h8, h9⟩ := hP
  obtain ⟨k1, k2⟩ := hheld r o_ h3 h4
  refine ⟨of, ao, o_, y, rvf, r, h1, h2, k1, k2, relO_mono hle h5, h6, fun d hd => ?_, h8, h9⟩
  rw [put_get fun d' hd' => hsz d' (by rw [hd'] at hdst; simpa [okDst, Nat.blt_eq] using hdst)]
  rw [if_neg fun h => hne (hF.once ho h1 h hd)]
  exact h7 d hd
theorem JJ.next (hkg : KG ≤ w0.heap.size) {listed : Array Bool} {a : Act} {w w' : World} (hJ : JJ tb ops V S a0 ρ0 h0 n0 w0 listed a w) (hF : Facts tb nt g ops call e0 V S) (hsz : nt ≤ a0.tmps.size) {i : Nat} {o : Oper} (ho : ops[i]? = some o) (hun : listed.getD i false = false)
    (hbef : ∀ j, ahead (befs ops.toList) i j = true → listed.getD j false = true) (hdst : okDst nt o.dst = true) {ρ σ : Mp} {rv : Value} {q0 q : Nat} (hle : ρ.le σ) (hqq : q0 ≤ q)
    (hv : ∀ i o d, ops[i]? = some o → listed.getD i false = true → o.dst = some d → (i = flt tb ops → i < q0) → rel ρ (V i) (a.tmps.getD d undef)) (hr : (i = flt tb ops → i < q) → rel σ (V i) rv) (hq : q ≤ ops.size)
    (h1 : ∀ c, c < q → IsEff tb ops c → c = i ∨ listed.getD c false = true) (hq0 : ∀ c, c = flt tb ops → listed.getD c false = true → c < q → c < q0)
    (h2 : ∀ c, q ≤ c → IsEff tb ops c → (c ≠ i ∧ listed.getD c false = false) ∨ (c = flt tb ops ∧ Pend tb ops V S w0 σ q (a.put o.dst rv) w')) (hG : Goes ρ0 h0 n0 w0 σ (S q).1 (S q).2 w') :
    JJ tb ops V S a0 ρ0 h0 n0 w0 (listed.setIfInBounds i true) (a.put o.dst rv) w' := by
  have hil : i < ops.size := (Array.getElem?_eq_some_iff.1 ho).1
  have hil' : i < listed.size := by rw [hJ.size]; exact hil
  have hput : ∀ d, o.dst = some d → d < a.tmps.size := fun d hd => by
    rw [hd] at hdst; simp only [okDst, Nat.blt_eq] at hdst; rw [hJ.tsz]; exact Nat.lt_of_lt_of_le hdst hsz
  have e1 : ∀ c, (listed.setIfInBounds i true).getD c false = if c = i then true else listed.getD c false := fun c => getD_set hil'
  have hv' : ∀ j p d, ops[j]? = some p → (listed.setIfInBounds i true).getD j false = true → p.dst = some d → (j = flt tb ops → j < q) → rel σ (V j) ((a.put o.dst rv).tmps.getD d undef) := by
    intro j p d hp hj hd hf
    rw [e1] at hj
    rw [put_get hput]
    split at hj
    · rename_i hji
      subst hji
      rw [ho] at hp; cases hp
      rw [if_pos hd]; exact hr hf
    · rename_i hji
      rw [if_neg (fun h => hji (hF.once hp ho hd h))]
      exact rel_mono hle _ _ (hv j p d hp hj hd fun e => hq0 j e hj (hf e))
  have base : ∀ st, JJ tb ops V S a0 ρ0 h0 n0 w0 (listed.setIfInBounds i true) (a.put o.dst rv) w' := fun st => by
    refine ⟨by simp [hJ.size], fun j hj k hk => ?_, by rw [put_size]; exact hJ.tsz, by rw [put_defers]; exact hJ.df, fun t ht => ?_, st⟩
    · rw [e1] at hj ⊢
      split
      · rfl
      · rename_i hki
        split at hj
        · rename_i hji; rw [hji] at hk; exact hbef k hk
        · exact hJ.cl j hj k hk
    · have hti : o.dst ≠ some t := ht i o ho (by rw [e1, if_pos rfl])
      rw [put_get hput, if_neg hti]
      refine hJ.rest t fun j p hp hj => ht j p hp ?_
      rw [e1]
      split
      · rfl
      · exact hj
  have l1 : ∀ c, c < q → IsEff tb ops c → (listed.setIfInBounds i true).getD c false = true := fun c hc he => by
    rw [e1]
    split
    · rfl
    · rename_i hne; exact (h1 c hc he).resolve_left hne
  by_cases hpend : (listed.setIfInBounds i true).getD (flt tb ops) false = true ∧ q ≤ flt tb ops ∧ IsEff tb ops (flt tb ops)
  · obtain ⟨hp1, hp2, hp3⟩ := hpend
    have hP : Pend tb ops V S w0 σ q (a.put o.dst rv) w' := by
      rcases h2 _ hp2 hp3 with ⟨g1, g2⟩ | ⟨_, g2⟩
      · rw [e1, if_neg g1, g2] at hp1; cases hp1
      · exact g2
    rcases eff_first (tb := tb) (ops := ops) (listed := listed.setIfInBounds i true) q (flt tb ops) with ⟨c', k1, k2, k3, k4⟩ | hall
    ·
      refine base ⟨q, σ, hq, l1, fun c hc he => ?_, fun c hc he hl => ?_, hG, hv'⟩
      · rcases h2 c hc he with ⟨g1, g2⟩ | g
        · left; rw [e1, if_neg g1]; exact g2
        · exact .inr g
      · rcases h2 c hc he with ⟨g1, g2⟩ | ⟨g1, _⟩
        · rw [e1, if_neg g1, g2] at hl; cases hl
        · exact ⟨c', k1, by rw [g1]; exact k2, k3, k4⟩
    ·
      obtain ⟨of, ao, o_, y, rvf, r, p1, p2, p3, p4, p5, p6, p7, p8, p9⟩ := hP
      have hfs : flt tb ops < ops.size := (Array.getElem?_eq_some_iff.1 p1).1
      have hno : ∀ c, q ≤ c → c < flt tb ops → ¬ IsEff tb ops c := fun c g1 g2 he => by
        have := hall c g1 g2 he
        rcases h2 c g1 he with ⟨k1, k2⟩ | ⟨k1, _⟩
        · rw [e1, if_neg k1, k2] at this; cases this
        · omega
      have hS := hF.same (flt tb ops - q) q (by omega) (fun c g1 g2 => hno c g1 (by omega))
      rw [show q + (flt tb ops - q) = flt tb ops by omega] at hS
      have hG' : Goes ρ0 h0 n0 w0 (σ.ext (S (flt tb ops)).2 (r, 0) y) (S (flt tb ops + 1)).1 (S (flt tb ops + 1)).2 w' := by
        rw [p8]
        rw [← hS] at hG p4
        exact hG.adopt hkg p2 p3 p4 p9 p5
      have hle2 : σ.le (σ.ext (S (flt tb ops)).2 (r, 0) y) := Mp.ext_le (by rw [hS]; exact hG.inv.fresh)
      refine base ⟨flt tb ops + 1, _, by omega, fun c hc he => ?_, fun c hc he => ?_, fun c hc he hl => ?_, hG', fun j p d hp hj hd hf => ?_⟩
      · rcases Nat.lt_or_ge c q with g1 | g1
        · exact l1 c g1 he
        · rcases Nat.lt_or_ge c (flt tb ops) with g2 | g2
          · exact hall c g1 g2 he
          · rw [show c = flt tb ops by omega]; exact hp1
      · rcases h2 c (by omega) he with ⟨g1, g2⟩ | ⟨g1, _⟩
        · left; rw [e1, if_neg g1]; exact g2
        · omega
      · rcases h2 c (by omega) he with ⟨g1, g2⟩ | ⟨g1, _⟩
        · rw [e1, if_neg g1, g2] at hl; cases hl
        · omega
      · by_cases hjf : j = flt tb ops
        · subst hjf
          rw [p1] at hp; cases hp
          rw [p7 d hd]
          exact p6 _ (Mp.ext_same _ _ _ _) (Mp.ext_sameG _ _ _ _)
        · exact rel_mono hle2 _ _ (hv' j p d hp hj hd fun e => absurd e hjf)
  ·
    have l2 : ∀ c, q ≤ c → IsEff tb ops c → (listed.setIfInBounds i true).getD c false = false := fun c hc he => by
      rcases h2 c hc he with ⟨g1, g2⟩ | ⟨g1, _⟩
      · rw [e1, if_neg g1]; exact g2
      · cases hl : (listed.setIfInBounds i true).getD c false with
        | false => rfl
        | true => rw [g1] at hl hc he; exact absurd ⟨hl, hc, he⟩ hpend
    exact base ⟨q, σ, hq, l1, fun c hc he => .inl (l2 c hc he), fun c hc he hl => (by rw [l2 c hc he] at hl; cases hl), hG, hv'⟩
theorem JJ.step (hkg : KG ≤ w0.heap.size) {listed : Array Bool} {a : Act} {w : World} {Q : Exit → Act → World → Prop} (hJ : JJ tb ops V S a0 ρ0 h0 n0 w0 listed a w) (hF : Facts tb nt g ops call e0 V S) (hc : CallOk P call) (hops : ∀ o, o ∈ ops.toList → OpLaw P tb o)
    (hE : FitE nt g ρ0 e0 a0) {i : Nat} (hi : i ∈ Region.ready .any ops listed) : wpOpIn (FR r) m P ops Q i (JJ tb ops V S a0 ρ0 h0 n0 w0 (listed.setIfInBounds i true)) a w := by
  obtain ⟨hun0, o, ho, hall⟩ := mem_ready.1 hi
  have hun := getD_both hun0
  have hil : i < ops.size := (Array.getElem?_eq_some_iff.1 ho).1
  have hbef := hJ.before hi
  obtain ⟨q, ρ, hq, hl, hu, hN, hG, hv⟩ := hJ.st
  obtain ⟨gd, hg, hdst, hwT, hwF⟩ := hF.gd i o ho
  have hmem : o ∈ ops.toList := by
    have := ho
    rw [← Array.getElem?_toList] at this
    exact List.mem_of_getElem? this
  have hszA : ∀ d, d < nt → d < a.tmps.size := fun d hd => by rw [hJ.tsz]; exact Nat.lt_of_lt_of_le hd hE.size
  have reg : ∀ j, ahead (befs ops.toList) i j = true → j = flt tb ops → j < q := by
    intro j hj hjf
    rcases Nat.lt_or_ge j q with h | h
    · exact h
    · have hjl := hbef j hj
      have hjo : ∃ oj, ops[j]? = some oj := by
        have : j < ops.size := by
          rcases Nat.lt_or_ge j ops.size with h | h
          · exact h
          · rw [Array.getD_eq_getD_getElem?, Array.getElem?_eq_none (by rw [hJ.size]; exact h)] at hjl; cases hjl
        exact ⟨ops[j], by simp [this]⟩
      obtain ⟨oj, hjo⟩ := hjo
      subst hjf
      have he : IsEff tb ops (flt tb ops) := ⟨oj, hjo, flt_eff (flt_kind hjo).1⟩
      obtain ⟨c', k1, k2, k3, k4⟩ := hN _ h he hjl
      have := hbef c' (hF.flts hil hj k3 k2)
      rw [k4] at this; cases this
  have own : ∀ p d, posOf d (dsAt ops.toList i) 0 = some p → p < i ∧ ∃ oj, ops[i - 1 - p]? = some oj ∧ oj.dst = some d := by
    intro p d hp
    have h1 := posOf_get hp
    have hlt : p < i := by
      rcases Nat.lt_or_ge p i with h | h
      · exact h
      · rw [List.getElem?_eq_none (by rw [dsAt_len (by simpa using Nat.le_of_lt hil)]; exact h)] at h1; cases h1
    have h2 := dsAt_get (ops := ops.toList) (i := i) (j := i - 1 - p) (by simpa using Nat.le_of_lt hil) (by omega)
    rw [show i - 1 - (i - 1 - p) = p by omega, h1, Array.getElem?_toList] at h2
    cases hj : ops[i - 1 - p]? with
    | none => rw [hj] at h2; cases h2
    | some oj => rw [hj] at h2; exact ⟨hlt, oj, rfl, (Option.some.inj h2).symm⟩
  have hw : Region.wanted o (yielded ops a.tmps) = wantedA (LSof V i) gd := by
    refine want_ok' (dsAt_of (Nat.le_of_lt hil)) (ρ := ρ) (fun j b d hog hj hp => ?_) hg
    obtain ⟨_, oj, h1, h2⟩ := own _ _ hp
    rw [show i - 1 - (i - 1 - j) = j by omega] at h1
    rw [LSof_get V i _ (by omega), show i - 1 - (i - 1 - j) = j by omega]
    exact hv j oj d h1 (hbef j (hF.guard ho hog)) h2 (reg j (hF.guard ho hog))
  have hfit : ∀ x, x ∈ o.op.operands → Fits ρ (dsAt ops.toList i) (LSof V i) e0 a x := by
    intro x hx s hs
    cases x with
    | tmp t =>
      simp only [lowS] at hs; cases hs
      unfold lowT
      cases hp : posOf t (dsAt ops.toList i) 0 with
      | some p =>
        obtain ⟨hlt, oj, h1, h2⟩ := own _ _ hp
        show rel ρ (nthD p (LSof V i)) (a.tmps.getD t undef)
        rw [LSof_get V i p hlt]
        have hah := (hF.read ho hx h1 h2).1 (by omega)
        exact hv _ oj t h1 (hbef _ hah) h2 (reg _ hah)
      | none =>
        have hk : memN t g = true := hF.kept i o ho (.tmp t) hx hp
        show rel ρ (orU (e0.get (t + 1))) (a.tmps.getD t undef)
        rw [hJ.rest t ?_]
        · exact rel_mono hG.le _ _ (hE.slot t hk)
        · intro j p hpj hlj hd
          have hrd := hF.read ho hx hpj hd
          rcases Nat.lt_trichotomy j i with h | h | h
          · have hn := posOf_none hp
            refine hn ?_
            have h2 := dsAt_get (ops := ops.toList) (i := i) (j := j) (by simpa using Nat.le_of_lt hil) h
            rw [show ops.toList[j]? = ops[j]? from Array.getElem?_toList, hpj, Option.map_some, hd] at h2
            exact List.mem_of_getElem? h2
          · subst h; rw [hun] at hlj; cases hlj
          · have := hJ.cl j hlj i (hrd.2 h)
            rw [hun] at this; cases this
    | const v =>
      simp only [lowS] at hs
      cases hv : lowV v with
      | none => rw [hv] at hs; cases hs
      | some b => rw [hv] at hs; cases hs; exact lowV_rel ρ v b hv
    | global j => exact global_fits hG.inv.st hs
    | func f =>
      cases hs
      show rel ρ (.func f .nl) (.func (.func f) #[] #[])
      simp only [rel]
      exact ⟨#[], rfl, by simp only [relL]⟩
  have hqi : clsOp tb o.op = 0 → q ≤ i := by
    intro hcl
    rcases Nat.lt_or_ge i q with h | h
    · have := hl i h ⟨o, ho, hcl⟩; rw [hun] at this; cases this
    · exact h
  have hpast : clsOp tb o.op = 0 → (∀ c, q ≤ c → c < i → ¬ IsEff tb ops c) ∨ (i = flt tb ops ∧ ∃ c, q ≤ c ∧ c < i ∧ IsEff tb ops c ∧ listed.getD c false = false) := by
    intro hcl
    have hie : IsEff tb ops i := ⟨o, ho, hcl⟩
    rcases eff_first (tb := tb) (ops := ops) (listed := listed) q i with ⟨c, k1, k2, k3, k4⟩ | hall
    · rcases hF.chain k3 hie k2 with h | h
      · have := hbef c h; rw [k4] at this; cases this
      · exact .inr ⟨h, c, k1, k2, k3, k4⟩
    · refine .inl fun c k1 k2 k3 => ?_
      obtain ⟨c', g1, g2, g3, g4⟩ := hN c k1 k3 (hall c k1 k2 k3)
      have := hall c' g1 (by omega) g3
      rw [g4] at this; cases this
  have heff : (∀ c, q ≤ c → c < i → ¬ IsEff tb ops c) → q ≤ i → S i = S q := by
    intro hno hqi
    have := hF.same (i - q) q (by omega) (fun c h1 h2 => hno c h1 (by omega))
    rwa [show q + (i - q) = i by omega] at this
  have hwin : clsOp tb o.op ≠ 0 → Win tb ops q i := by
    intro hcl
    refine ⟨hq, fun c hcq hce => ?_, fun c hcq hce => ?_⟩
    · cases hb : ahead (befs ops.toList) c i with
      | false => rfl
      | true =>
        have := hJ.cl c (hl c hcq hce) i hb
        rw [hun] at this; cases this
    · cases hb : ahead (befs ops.toList) i c with
      | false => rfl
      | true =>
        have hcl' := hbef c hb
        rcases hu c hcq hce with h | ⟨h, _⟩
        · rw [h] at hcl'; cases hcl'
        · have := reg c hb h; omega
  have fltNe : clsOp tb o.op ≠ 0 → i ≠ flt tb ops := fun hcl e => by
    subst e; exact hcl (flt_eff (flt_kind ho).1)
  have next0 : clsOp tb o.op = 0 → (∀ c, q ≤ c → c < i → ¬ IsEff tb ops c) → ∀ (a' : Act) (w' : World) (σ : Mp) (rv : Value), rel σ (V i) rv → a' = a.put o.dst rv → Goes ρ (S q).1 (S q).2 w σ (S (i + 1)).1 (S (i + 1)).2 w' →
      JJ tb ops V S a0 ρ0 h0 n0 w0 (listed.setIfInBounds i true) a' w' := by
    intro hcl hno a' w' σ rv hr ha hG'
    subst ha
    have h0 := hqi hcl
    refine hJ.next hkg hF hE.size ho hun hbef hdst hG'.le (q0 := q) (q := i + 1) (by omega) hv (fun _ => hr) (by omega) (fun c hci hce => ?_) (fun c hcf hcl' hci => ?_) (fun c hci hce => ?_) (hG.trans hG')
    · by_cases e : c = i
      · exact .inl e
      · right
        rcases Nat.lt_or_ge c q with h | h
        · exact hl c h hce
        · exact absurd hce (hno c h (by omega))
    · rcases Nat.lt_or_ge c q with h | h
      · exact h
      · exfalso
        by_cases e : c = i
        · subst e; rw [hun] at hcl'; cases hcl'
        · subst hcf
          have hcs : flt tb ops < ops.size := by omega
          have hjo : ops[flt tb ops]? = some ops[flt tb ops] := by simp [hcs]
          exact hno _ h (by omega) ⟨_, hjo, flt_eff (flt_kind hjo).1⟩
    · rcases hu c (by omega) hce with h | ⟨h, hP⟩
      · exact .inl ⟨by omega, h⟩
      · exact .inr ⟨h, hP.next hF hszA ho (fun e => by omega) hdst hG'.le fun r o_ q1 q2 => hG'.held q1 q2⟩
  have next1 : clsOp tb o.op ≠ 0 → ∀ (a' : Act) (w' : World) (σ : Mp) (rv : Value), rel σ (V i) rv → a' = a.put o.dst rv → Goes ρ (S q).1 (S q).2 w σ (S q).1 (S q).2 w' →
      JJ tb ops V S a0 ρ0 h0 n0 w0 (listed.setIfInBounds i true) a' w' := by
    intro hcl a' w' σ rv hr ha hG'
    subst ha
    refine hJ.next hkg hF hE.size ho hun hbef hdst hG'.le (q0 := q) (q := q) (Nat.le_refl _) hv (fun _ => hr) hq (fun c hci hce => .inr (hl c hci hce)) (fun c _ _ h => h) (fun c hci hce => ?_) (hG.trans hG')
    rcases hu c hci hce with h | ⟨h, hP⟩
    · refine .inl ⟨fun e => ?_, h⟩
      subst e
      obtain ⟨p, hp, hpc⟩ := hce
      rw [ho] at hp; cases hp
      exact hcl hpc
    · exact .inr ⟨h, hP.next hF hszA ho (fltNe hcl) hdst hG'.le fun r o_ q1 q2 => hG'.held q1 q2⟩
  unfold wpOpIn
  rw [ho]
  simp only
  rw [hw]
  cases hwa : wantedA (LSof V i) gd with
  | false =>
    rw [if_neg (by simp)]
    obtain ⟨hV, hS⟩ := hwF hwa
    refine ⟨fun _ _ => trivial, ?_⟩
    by_cases hcl : clsOp tb o.op = 0
    · rcases hpast hcl with hno | ⟨hif, _⟩
      · refine next0 hcl hno _ _ ρ undef (by rw [hV]; exact rel_undef ρ) rfl ?_
        rw [hS, heff hno (hqi hcl)]; exact Goes.refl hG.inv
      ·
        subst hif
        have := (flt_kind ho).2
        rw [this] at hg
        cases hg
        cases hwa
    · exact next1 hcl _ _ ρ undef (by rw [hV]; exact rel_undef ρ) rfl (Goes.refl hG.inv)
  | true =>
    rw [if_pos rfl]
    obtain ⟨hE0, hE1⟩ := hwT hwa
    by_cases hcl : clsOp tb o.op = 0
    · have hrun := hE0 hcl
      rcases hpast hcl with hno | ⟨hif, c', k1, k2, k3, k4⟩
      · rw [heff hno (hqi hcl)] at hrun
        refine Oper.wpIn_mono (fun a' w' ha => ?_) (Oper.wpIn_of (lowOp_defer hrun (by simp)) ((hops o hmem).1 (dsAt ops.toList i) (LSof V i) e0 a ρ (S q).1 (S q).2 w call finK _ Q hc hfit hG.inv hrun (by simp)))
        obtain ⟨rv, ha', v, h', n', σ, hk, hG', hrel⟩ := ha
        injection hk with e1 e2 e3
        subst e1; subst e2; subst e3
        exact next0 hcl hno a' w' σ rv hrel ha' hG'
      ·
        have hkind : fltKind tb o.op = true := by have := ho; rw [hif] at this; exact (flt_kind this).1
        obtain ⟨ao, o_, y, rv, f1, f2, f3, f4, f5, f6⟩ := (hops o hmem).2 hkind (dsAt ops.toList i) (LSof V i) e0 a ρ (S i).2 w call (S i).1 (V i) _ _ hfit hrun
        refine Oper.wpIn_of (lowOp_defer hrun (by simp)) ?_
        unfold Oper.wp
        rw [f6]
        show JJ tb ops V S a0 ρ0 h0 n0 w0 (listed.setIfInBounds i true) (a.put o.dst rv) (w.alloc o_)
        obtain ⟨g1, g2, g3⟩ := Goes.alloc hG.inv o_
        have hnf : flt tb ops = i := hif.symm
        refine hJ.next hkg hF hE.size ho hun hbef hdst (Mp.le_refl ρ) (q0 := q) (q := q) (Nat.le_refl _) hv (fun hf => ?_) hq (fun c hci hce => .inr (hl c hci hce)) (fun c _ _ h => h) (fun c hci hce => ?_) (hG.trans g1)
        · have := hf hif; have := hqi hcl; omega
        · by_cases e : c = i
          · refine .inr ⟨e.trans hif, o, ao, o_, y, rv, w.heap.size, by rw [hnf]; exact ho, hG.size, g2, g3, f4, by rw [hnf]; exact f5, fun d hd => ?_, ?_, by rw [hnf]; exact f1⟩
            · rw [put_get fun d' hd' => hszA d' (by rw [hd'] at hdst; simpa [okDst, Nat.blt_eq] using hdst), if_pos hd]
            · rw [hnf, ← f2, ← f3]
          · rcases hu c hci hce with h | ⟨h, _⟩
            · exact .inl ⟨e, h⟩
            · exact absurd (h.trans hnf) e
    · have hrun := (hE1 hcl).2 q (hwin hcl) finK
      refine Oper.wpIn_mono (fun a' w' ha => ?_) (Oper.wpIn_of (lowOp_defer hrun (by simp [finK])) ((hops o hmem).1 (dsAt ops.toList i) (LSof V i) e0 a ρ (S q).1 (S q).2 w call finK _ Q hc hfit hG.inv hrun (by simp [finK])))
      obtain ⟨rv, ha', v, h', n', σ, hk, hG', hrel⟩ := ha
      injection hk with e1 e2 e3
      subst e1; subst e2; subst e3
      exact next1 hcl a' w' σ rv hrel ha' hG'
theorem JJ.all (hkg : KG ≤ w0.heap.size) {Q : Exit → Act → World → Prop} (hF : Facts tb nt g ops call e0 V S) (hc : CallOk P call) (hops : ∀ o, o ∈ ops.toList → OpLaw P tb o) (hE : FitE nt g ρ0 e0 a0)
    (hQ : ∀ (listed : Array Bool) (a : Act) (w : World), JJ tb ops V S a0 ρ0 h0 n0 w0 listed a w → (∀ j, j < ops.size → listed.getD j false = true) → Q .normal a w) :
    ∀ (fuel : Nat) (listed : Array Bool) (a : Act) (w : World), JJ tb ops V S a0 ρ0 h0 n0 w0 listed a w → cntU listed ops.size = fuel → wpAnyIn (FR r) m P .any ops Q fuel listed a w := by
  have done : ∀ (listed : Array Bool) (a : Act) (w : World), JJ tb ops V S a0 ρ0 h0 n0 w0 listed a w → Region.ready .any ops listed = [] → ∀ j, j < ops.size → listed.getD j false = true := by
    intro listed a w hJ hr j
    induction j using Nat.strongRecOn with
    | _ j ih =>
      intro hj
      cases hl : listed.getD j false with
      | true => rfl
      | false =>
        have : j ∈ Region.ready .any ops listed := by
          refine mem_ready.2 ⟨getD_in (by rw [hJ.size]; exact hj) hl, ops[j], by simp [hj], fun e he hb => ?_⟩
          have hlt := hF.edge (i := j) (o := ops[j]) (by simp [hj]) he hb
          exact ih e.on hlt (by omega)
        rw [hr] at this; cases this
  intro fuel
  induction fuel with
  | zero =>
    intro listed a w hJ hz
    have hall := cntU_zero ops.size hz
    refine ⟨?_, hQ listed a w hJ hall⟩
    cases hr : Region.ready .any ops listed with
    | nil => rfl
    | cons i l =>
      have hi : i ∈ Region.ready .any ops listed := by rw [hr]; exact List.mem_cons_self
      obtain ⟨h1, o, ho, _⟩ := mem_ready.1 hi
      have h2 := hall i (Array.getElem?_eq_some_iff.1 ho).1
      rw [getD_both h1] at h2; cases h2
  | succ fuel ih =>
    intro listed a w hJ hz
    refine ⟨fun hr => hQ listed a w hJ (done listed a w hJ hr), fun i hi => ?_⟩
    obtain ⟨h1, o, ho, _⟩ := mem_ready.1 hi
    have hil : i < ops.size := (Array.getElem?_eq_some_iff.1 ho).1
    refine wpOpIn_mono (fun a' w' hJ' => ih _ a' w' hJ' ?_) (hJ.step hkg hF hc hops hE hi)
    have := cntU_set (by rw [hJ.size]; exact hil) (getD_both h1) ops.size hil
    omega
end
end
end Go.VE
namespace Go.VE
noncomputable section
open Go
theorem putE_get {nt : Nat} (hnt : nt ≤ 1000000) {g : List Nat} {e : Env} {dst : Option Nat} {v : AV} {t : Nat} (hd : okDst nt dst = true) (ht : memN t g = true) :
    (putE e (slotOf g dst) v).get (t + 1) = if dst = some t then some v else e.get (t + 1) := by
  cases dst with
  | none => rw [if_neg (by simp)]; rfl
  | some d =>
    simp only [okDst, Nat.blt_eq] at hd
    simp only [slotOf]
    by_cases e1 : d = t
    · subst e1
      rw [ht, if_pos rfl, cond_true]
      unfold putE
      have : Nat.beq (d + 1) 0 = false := rfl
      rw [this, br_false, T.get_put _ _ _ _ (by omega) (by omega) (by omega), if_pos rfl]
    · rw [if_neg (fun h => e1 (Option.some.inj h))]
      cases memN d g
      · rfl
      · rw [cond_true]; unfold putE
        have : Nat.beq (d + 1) 0 = false := rfl
        rw [this, br_false, T.get_put _ _ _ _ (by omega) (by omega) (by omega), if_neg (by omega)]
theorem lowD_get {nt : Nat} {g : List Nat} {tb : Tb} {bs : List Nat} {m : Nat} {es : List Nat} : ∀ (l : List Oper) (ds : List (Option Nat)) (cur : Nat),
    (lowD nt g tb bs m es ds cur l).length = l.length ∧ ∀ (j : Nat) (o : Oper), l[j]? = some o → (lowD nt g tb bs m es ds cur l)[j]? =
      some (DOper.mk (lowOper nt g tb (((l.take j).map (fun p : Oper => p.dst)).reverse ++ ds) (cur + j) o) (clsOp tb o.op) (bif Nat.beq (clsOp tb o.op) 1 then (windsOf bs m (cur + j) es).map (fun q => m - q) else []))
  | [], _, _ => ⟨rfl, fun j o h => by simp at h⟩
  | o :: l, ds, cur => by
    obtain ⟨h1, h2⟩ := lowD_get (nt := nt) (g := g) (tb := tb) (bs := bs) (m := m) (es := es) l (o.dst :: ds) (cur + 1)
    refine ⟨by simp only [lowD, List.length_cons, h1], fun j p hp => ?_⟩
    cases j with
    | zero => cases hp; simp [lowD]
    | succ j =>
      simp only [lowD, List.getElem?_cons_succ]
      rw [h2 j p hp, show cur + 1 + j = cur + (j + 1) by omega]
      simp
theorem lowDs_get {nt : Nat} {g : List Nat} {tb : Tb} {ops : Array Oper} {i : Nat} {o : Oper} (ho : ops[i]? = some o) : (lowDs nt g tb ops.toList)[i]? =
    some (DOper.mk (lowOper nt g tb (dsAt ops.toList i) i o) (clsOp tb o.op)
      (bif Nat.beq (clsOp tb o.op) 1 then (windsOf (befs ops.toList) ops.size i (effs (ops.toList.map fun o => clsOp tb o.op) 0)).map (fun q => ops.size - q) else [])) := by
  have := (lowD_get (nt := nt) (g := g) (tb := tb) (bs := befs ops.toList) (m := ops.toList.length) (es := effs (ops.toList.map fun o => clsOp tb o.op) 0) ops.toList [] 0).2 i o (by rw [Array.getElem?_toList]; exact ho)
  rw [Nat.zero_add, List.append_nil, Array.length_toList] at this
  unfold lowDs
  rw [Array.length_toList]
  exact this
theorem lowDs_len {nt : Nat} {g : List Nat} {tb : Tb} {ops : Array Oper} : (lowDs nt g tb ops.toList).length = ops.size := by
  unfold lowDs
  exact ((lowD_get _ _ _).1).trans Array.length_toList
theorem lowOper_cases (nt : Nat) (g : List Nat) (tb : Tb) (ds : List (Option Nat)) (cur : Nat) (o : Oper) : lowOper nt g tb ds cur o = badOper ∨
    ∃ gd, guardOf ds cur o.guard = some gd ∧ okDst nt o.dst = true ∧ lowOper nt g tb ds cur o = { dst := slotOf g o.dst, guard := gd, op := lowOp ds tb o.op } := by
  unfold lowOper
  cases guardOf ds cur o.guard with
  | none => exact .inl rfl
  | some gd =>
    cases hd : okDst nt o.dst with
    | false => exact .inl rfl
    | true => exact .inr ⟨gd, rfl, rfl, rfl⟩
theorem lowOper_still {nt : Nat} {g : List Nat} {tb : Tb} {ds : List (Option Nat)} {cur : Nat} {o : Oper} (h : clsOp tb o.op ≠ 0) : StillOp (lowOper nt g tb ds cur o).op := by
  rcases lowOper_cases nt g tb ds cur o with e | ⟨gd, _, _, e⟩
  · rw [e]; exact po_bad.still
  · rw [e]
    show StillOp (lowOp ds tb o.op)
    have : clsOp tb o.op = 1 ∨ clsOp tb o.op = 2 := by
      generalize o.op = p at h
      cases p <;> simp only [clsOp] at h ⊢ <;> first | exact .inl rfl | exact .inr rfl | exact absurd rfl h | skip
      all_goals (repeat' split at h) <;> first | exact absurd rfl h | (simp_all)
    rcases this with h1 | h1
    · exact cls_still h1 ds
    · exact (cls_pure h1 ds).still
theorem readsOps_kept {g : List Nat} : ∀ {l : List Oper} {ds : List (Option Nat)} {acc : List Nat}, Sub (readsOps ds l acc) g → ∀ j o, l[j]? = some o → ∀ x, x ∈ o.op.operands → Kept g (((l.take j).map (·.dst)).reverse ++ ds) x
  | [], _, _, _, j, o, ho, _, _ => by simp at ho
  | p :: l, ds, acc, h, j, o, ho, x, hx => by
    cases j with
    | zero =>
      cases ho
      exact readsL_kept ((readsOps_sub _ l _).trans h) x (by simpa using hx)
    | succ j =>
      have := readsOps_kept (l := l) h j o ho x hx
      simpa using this
end
end Go.VE
namespace Go.VE
noncomputable section
open Go
section
variable {P : Program} {tb : Tb} {nt : Nat} {g : List Nat} {ops : Array Oper} {call : CallT} {e0 : Env} {V : Nat → AV} {S : Nat → H × Nat} {r : Option Nat} {m : Nat}
theorem tr_good {i : Nat} {o : Oper} {q : List Nat} (hT : Tr call e0 V S i (DOper.mk (lowOper nt g tb (dsAt ops.toList i) i o) (clsOp tb o.op) q)) :
    ∃ gd, guardOf (dsAt ops.toList i) i o.guard = some gd ∧ okDst nt o.dst = true ∧ lowOper nt g tb (dsAt ops.toList i) i o = { dst := slotOf g o.dst, guard := gd, op := lowOp (dsAt ops.toList i) tb o.op } := by
  rcases lowOper_cases nt g tb (dsAt ops.toList i) i o with e | h
  · rw [e] at hT
    obtain ⟨h1, _⟩ := hT
    have h2 := h1 rfl
    by_cases hc : clsOp tb o.op = 0
    · have := h2.1 hc; cases this
    · have := (h2.2 hc).2 finK; cases this
  · exact h
theorem facts_of (hT : ∀ (j : Nat) (o : DOper), (lowDs nt g tb ops.toList)[j]? = some o → Tr call e0 V S j o)
    (hC : ∀ (j : Nat) (o : DOper), (lowDs nt g tb ops.toList)[j]? = some o → wantedA (LSof V j) o.lo.guard = true → ∀ q, q ∈ o.qs → ∃ s, (StsOf S (ops.size + 1))[q]? = some s ∧ ∀ k', o.lo.op call (LSof V j) e0 s.1 s.2 k' = k' (V j) s.1 s.2)
    (hd : drawOk tb ops.toList = true) {acc : List Nat} (hs : Sub (readsOps [] ops.toList acc) g) : Facts tb nt g ops call e0 V S := by
  have same : ∀ (k q : Nat), q + k ≤ ops.size → (∀ c, q ≤ c → c < q + k → ¬ IsEff tb ops c) → S (q + k) = S q := by
    intro k
    induction k with
    | zero => intro q _ _; rfl
    | succ k ih =>
      intro q hsz hno
      have hlt : q + k < ops.size := by omega
      have ho : ops[q + k]? = some ops[q + k] := by simp [hlt]
      have hcl : clsOp tb ops[q + k].op ≠ 0 := fun e => hno (q + k) (by omega) (by omega) ⟨_, ho, e⟩
      have h1 := hT _ _ (lowDs_get ho)
      rw [← ih q (by omega) (fun c h1 h2 => hno c h1 (by omega))]
      cases hw : wantedA (LSof V (q + k)) (lowOper nt g tb (dsAt ops.toList (q + k)) (q + k) ops[q + k]).guard with
      | true => exact ((h1.1 hw).2 hcl).1
      | false => exact (h1.2 hw).2
  refine ⟨fun i o ho => ?_, fun i o ho x hx => ?_, hd⟩
  · have h1 := hT _ _ (lowDs_get (nt := nt) (g := g) (tb := tb) ho)
    have h2 := hC _ _ (lowDs_get (nt := nt) (g := g) (tb := tb) ho)
    obtain ⟨gd, e1, e2, e3⟩ := tr_good h1
    rw [e3] at h1 h2
    have hil : i < ops.size := (Array.getElem?_eq_some_iff.1 ho).1
    refine ⟨gd, e1, e2, fun hw => ⟨(h1.1 hw).1, fun hc => ⟨((h1.1 hw).2 hc).1, fun q hq k' => ?_⟩⟩, h1.2⟩
    have hown := ((h1.1 hw).2 hc).2
    by_cases hc2 : clsOp tb o.op = 2
    · obtain ⟨F, hF, hP⟩ := cls_pure hc2 (dsAt ops.toList i)
      have h3 := hown finK
      simp only at h3
      rw [hF] at h3 ⊢
      obtain ⟨v, g1, g2⟩ := hP _ _ _ _ _ _ h3 (by simp [finK])
      injection g1 with g1
      subst g1
      exact g2 _ _ k'
    · have hc1 : Nat.beq (clsOp tb o.op) 1 = true := by
        have : clsOp tb o.op = 1 := by
          generalize o.op = p at hc hc2
          cases p <;> simp only [clsOp] at hc hc2 ⊢ <;> first | rfl | exact absurd rfl hc | exact absurd rfl hc2 | skip
          all_goals (repeat' split at hc) <;> first | exact absurd rfl hc | (simp_all)
        rw [this]; rfl
      have nxt : ∃ r, q ≤ r ∧ r ≤ ops.size ∧ S r = S q ∧ (∀ c, q ≤ c → c < r → ¬ IsEff tb ops c) ∧ (IsEff tb ops r ∨ r = ops.size) := by
        have : ∀ (d q : Nat), q + d = ops.size → ∃ r, q ≤ r ∧ r ≤ ops.size ∧ (∀ c, q ≤ c → c < r → ¬ IsEff tb ops c) ∧ (IsEff tb ops r ∨ r = ops.size) := by
          intro d
          induction d with
          | zero => intro q hq; exact ⟨q, Nat.le_refl _, by omega, fun c h1 h2 => by omega, .inr (by omega)⟩
          | succ d ih =>
            intro q hq
            by_cases he : IsEff tb ops q
            · exact ⟨q, Nat.le_refl _, by omega, fun c h1 h2 => by omega, .inl he⟩
            · obtain ⟨r, g1, g2, g3, g4⟩ := ih (q + 1) (by omega)
              refine ⟨r, by omega, g2, fun c h1 h2 => ?_, g4⟩
              by_cases e : c = q
              · rw [e]; exact he
              · exact g3 c (by omega) h2
        obtain ⟨r, g1, g2, g3, g4⟩ := this (ops.size - q) q (by have := hq.1; omega)
        refine ⟨r, g1, g2, ?_, g3, g4⟩
        have := same (r - q) q (by omega) (fun c h1 h2 => g3 c h1 (by omega))
        rwa [show q + (r - q) = r by omega] at this
      obtain ⟨r, hqr, hrs, hSr, hno, hr⟩ := nxt
      rw [← hSr]
      have hsort := effs_sorted (ops.toList.map fun o => clsOp tb o.op) 0
      have hlt : ∀ c, c ∈ effs (ops.toList.map fun o => clsOp tb o.op) 0 → c < ops.size := fun c hc => by
        obtain ⟨p, hp, _⟩ := mem_effs'.1 hc
        exact (Array.getElem?_eq_some_iff.1 hp).1
      have hrw : r ∈ winds (befs ops.toList) ops.size i [] (effs (ops.toList.map fun o => clsOp tb o.op) 0) := by
        refine winds_mem _ [] hsort (hr.imp (fun h => mem_effs'.2 h) (fun h => ⟨h, fun c hc => hlt c hc⟩)) (fun d hd => by cases hd) (fun c hc hcr => ?_) (fun c hc hrc => ?_)
        · have hce := mem_effs'.1 hc
          rcases Nat.lt_or_ge c q with h | h
          · exact hq.2.1 c h hce
          · exact absurd hce (hno c h hcr)
        · exact hq.2.2 c (by omega) (mem_effs'.1 hc)
      by_cases hown' : r = nextEff ops.size i (effs (ops.toList.map fun o => clsOp tb o.op) 0)
      ·
        have hsp := nextEff_spec (m := ops.size) (i := i) _ hsort
        rw [← hown'] at hsp
        have hir : i ≤ r := by
          rcases hsp.1 with h | h
          · exact h.2
          · omega
        have hSi := same (r - i) i (by omega) (fun c h1 h2 hce => by
          have := hsp.2 c (mem_effs'.2 hce) (by omega) (fun d hd => hlt d hd)
          omega)
        rw [show i + (r - i) = r by omega] at hSi
        rw [hSi]; exact hown k'
      · have hmem : ops.size - r ∈ (bif Nat.beq (clsOp tb o.op) 1 then (windsOf (befs ops.toList) ops.size i (effs (ops.toList.map fun o => clsOp tb o.op) 0)).map (fun q => ops.size - q) else []) := by
          rw [hc1, cond_true]
          refine List.mem_map.2 ⟨r, ?_, rfl⟩
          unfold windsOf
          refine List.mem_filter.2 ⟨hrw, ?_⟩
          cases hb : Nat.beq r (nextEff ops.size i (effs (ops.toList.map fun o => clsOp tb o.op) 0)) with
          | false => rfl
          | true => exact absurd (beq_n hb) hown'
        obtain ⟨s, g1, g2⟩ := h2 hw _ hmem
        rw [StsOf_get S _ _ (by omega), show ops.size + 1 - 1 - (ops.size - r) = r by omega] at g1
        cases g1
        exact g2 k'
  · have := readsOps_kept hs i o (by rw [Array.getElem?_toList]; exact ho) x hx
    rwa [List.append_nil] at this
theorem env_of {ρ : Mp} {a0 a : Act} (hnt : nt ≤ 1000000) {e0 : Env} (hE : FitE nt g ρ e0 a0) {σ : Mp} (hle : ρ.le σ) (hlow : ∀ (i : Nat) (o : Oper), ops[i]? = some o → okDst nt o.dst = true) {D : Nat → Nat} (hD : ∀ (i : Nat) (o : Oper), ops[i]? = some o → D i = slotOf g o.dst)
    (hv : ∀ (i : Nat) (o : Oper) (d : Nat), ops[i]? = some o → o.dst = some d → rel σ (V i) (a.tmps.getD d undef)) (hrest : ∀ t, (∀ (i : Nat) (o : Oper), ops[i]? = some o → o.dst ≠ some t) → a.tmps.getD t undef = a0.tmps.getD t undef) (hsz : a.tmps.size = a0.tmps.size) :
    FitE nt g σ (EnvOf D e0 V ops.size) a := by
  refine ⟨fun t ht => ?_, by rw [hsz]; exact hE.size, fun i hi => hle.at_ _ _ (hE.st i hi)⟩
  have key : ∀ i, i ≤ ops.size → ((∃ (j : Nat) (o : Oper), j < i ∧ ops[j]? = some o ∧ o.dst = some t) ∧ rel σ (orU ((EnvOf D e0 V i).get (t + 1))) (a.tmps.getD t undef)) ∨
      ((∀ (j : Nat) (o : Oper), j < i → ops[j]? = some o → o.dst ≠ some t) ∧ (EnvOf D e0 V i).get (t + 1) = e0.get (t + 1)) := by
    intro i
    induction i with
    | zero => intro _; exact .inr ⟨fun j o hj => by omega, rfl⟩
    | succ i ih =>
      intro hi
      have hil : i < ops.size := by omega
      have ho : ops[i]? = some ops[i] := by simp [hil]
      have hg := putE_get (e := EnvOf D e0 V i) (v := V i) hnt (hlow i _ ho) ht
      have he : EnvOf D e0 V (i + 1) = putE (EnvOf D e0 V i) (slotOf g ops[i].dst) (V i) := by
        show putE (EnvOf D e0 V i) (D i) (V i) = _
        rw [hD i _ ho]
      rw [he, hg]
      by_cases hd : ops[i].dst = some t
      · rw [if_pos hd]
        exact .inl ⟨⟨i, _, by omega, ho, hd⟩, hv i _ t ho hd⟩
      · rw [if_neg hd]
        rcases ih (by omega) with ⟨⟨j, o, h1, h2, h3⟩, h4⟩ | ⟨h1, h2⟩
        · exact .inl ⟨⟨j, o, by omega, h2, h3⟩, h4⟩
        · refine .inr ⟨fun j o hj hoj => ?_, h2⟩
          by_cases e : j = i
          · subst e; rw [ho] at hoj; cases hoj; exact hd
          · exact h1 j o (by omega) hoj
  rcases key ops.size (Nat.le_refl _) with ⟨_, h⟩ | ⟨h1, h2⟩
  · exact h
  · rw [h2, hrest t fun i o ho => h1 i o (Array.getElem?_eq_some_iff.1 ho).1 ho]
    exact rel_mono hle _ _ (hE.slot t ht)
theorem draw_run (hm : P.follows .mixedOrders = true) {L : Lv} (hc : CallOk P L.call) (hnt : nt ≤ 1000000) (hops : ∀ o, o ∈ ops.toList → OpLaw P tb o) (hd : drawOk tb ops.toList = true) {acc : List Nat} (hs : Sub (readsOps [] ops.toList acc) g)
    {e : Env} {h : H} {n : Nat} {rr : RR} (hne : rr ≠ .fail) (hr : xDrawn nt g tb ops.toList L e h n = rr) {ρ : Mp} {a : Act} {w : World} (hi : Inv ρ h n w) (hE : FitE nt g ρ e a) {id : Nat} :
    (Code.region id ops true).wpIn (FR r) m P (PostX nt g ρ h n w a.defers rr) a w := by
  unfold xDrawn xDraw at hr
  let D : Nat → Nat := fun i => (((lowDs nt g tb ops.toList)[i]?).map (fun o : DOper => o.lo.dst)).getD 0
  have hDg : ∀ j o, (lowDs nt g tb ops.toList)[j]? = some o → D (0 + j) = o.lo.dst := fun j o ho => by
    show (((lowDs nt g tb ops.toList)[0 + j]?).map (fun o : DOper => o.lo.dst)).getD 0 = _
    rw [Nat.zero_add, ho]; rfl
  have hcls : ∀ o, o ∈ lowDs nt g tb ops.toList → ∃ (i : Nat) (p : Oper) (q : List Nat), ops[i]? = some p ∧ o = DOper.mk (lowOper nt g tb (dsAt ops.toList i) i p) (clsOp tb p.op) q ∧ (q ≠ [] → clsOp tb p.op ≠ 0) := by
    intro o ho
    obtain ⟨i, hi⟩ := List.mem_iff_getElem?.1 ho
    have hil : i < ops.size := by
      rcases Nat.lt_or_ge i ops.size with h | h
      · exact h
      · rw [List.getElem?_eq_none (by rw [lowDs_len]; exact h)] at hi; cases hi
    have hoi : ops[i]? = some ops[i] := by simp [hil]
    rw [lowDs_get hoi] at hi
    refine ⟨i, ops[i], _, hoi, (Option.some.inj hi).symm, fun hq e => hq ?_⟩
    rw [e]; rfl
  obtain ⟨V, S, _, hS0, hT, hfin⟩ := runD_trace (D := D) hne (lowDs nt g tb ops.toList) 0 (fun _ => .undef) (fun _ => (h, n)) (fun o ho hcl => by
    obtain ⟨i, p, q, _, rfl, _⟩ := hcls o ho
    exact lowOper_still hcl) hDg hr
  rw [Nat.zero_add, lowDs_len] at hfin
  have hT' : ∀ (j : Nat) (o : DOper), (lowDs nt g tb ops.toList)[j]? = some o → Tr L.call e V S j o := fun j o ho => by
    have := hT j o ho
    rwa [Nat.zero_add] at this
  have hls : LSof V ops.size = LSof V (lowDs nt g tb ops.toList).length := by rw [lowDs_len]
  rw [hls] at hfin
  obtain ⟨hrr, hC⟩ := chkD_ok hne (lowDs nt g tb ops.toList) (fun o ho hq => by
    obtain ⟨i, p, q, _, rfl, h2⟩ := hcls o ho
    exact lowOper_still (h2 hq)) hfin
  have hF : Facts tb nt g ops L.call e V S := facts_of hT' hC hd hs
  have hS0' : S 0 = (h, n) := hS0 0 (Nat.le_refl _)
  refine wpIn_region_any hm ?_
  refine JJ.all (ρ0 := ρ) (h0 := h) (n0 := n) (w0 := w) (a0 := a) hi.kg hF hc hops hE (fun listed a' w' hJ hall => ?_) ops.size _ a _ ⟨by simp, fun i hi => ?_, rfl, rfl, fun _ _ => rfl, 0, ρ, Nat.zero_le _, fun c hc => by omega, fun c _ _ => .inl ?_, fun c _ _ hcl => ?_, ?_, fun i o d _ hi => ?_⟩ ?_
  · obtain ⟨q, σ, hq, hl, hu, hN, hG, hv⟩ := hJ.st
    have hend : ∀ c, q ≤ c → ¬ IsEff tb ops c := fun c h1 h2 => by
      have hlt : ∀ c, IsEff tb ops c → c < ops.size := fun c ⟨_, ho, _⟩ => (Array.getElem?_eq_some_iff.1 ho).1
      obtain ⟨c', _, _, k3, k4⟩ := hN c h1 h2 (hall c (hlt c h2))
      rw [hall c' (hlt c' k3)] at k4; cases k4
    have hSq : S ops.size = S q := by
      have := hF.same (ops.size - q) q (by omega) (fun c h1 h2 hce => hend c h1 hce)
      rwa [show q + (ops.size - q) = ops.size by omega] at this
    refine ⟨EnvOf D e V ops.size, (S ops.size).1, (S ops.size).2, σ, by rw [hSq]; exact hG, ?_, hJ.df, .inl ⟨rfl, hrr.symm⟩⟩
    refine env_of hnt hE hG.le (fun i o ho => ?_) (fun i o ho => ?_) (fun i o d ho hdd => hv i o d ho (hall i (Array.getElem?_eq_some_iff.1 ho).1) hdd fun e => by
      subst e
      exact Nat.lt_of_not_le fun h => hend _ h ⟨o, ho, flt_eff (flt_kind ho).1⟩) (fun t ht => hJ.rest t fun i o ho _ => ht i o ho) hJ.tsz
    · obtain ⟨_, _, h2, _⟩ := hF.gd i o ho; exact h2
    · obtain ⟨gd, e1, e2, e3⟩ := tr_good (hT' _ _ (lowDs_get (nt := nt) (g := g) (tb := tb) ho))
      have := hDg i _ (lowDs_get (nt := nt) (g := g) (tb := tb) ho)
      rw [Nat.zero_add] at this
      rw [this, e3]
  · rw [getD_replicate_false] at hi; cases hi
  · exact getD_replicate_false _ _
  · rw [getD_replicate_false] at hcl; cases hcl
  · rw [hS0']; exact Goes.heap hi rfl
  · rw [getD_replicate_false] at hi; cases hi
  · have : ∀ k, cntU (Array.replicate ops.size false) k = k := by
      intro k
      induction k with
      | zero => rfl
      | succ k ih => simp only [cntU]; rw [ih, getD_replicate_false]; rfl
    exact this _
end
end
end Go.VE
