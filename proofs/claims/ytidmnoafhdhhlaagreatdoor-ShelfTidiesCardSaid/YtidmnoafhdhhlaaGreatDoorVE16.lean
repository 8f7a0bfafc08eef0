/- The evaluator, part 16: definitions and their laws, over any program. No condition. -/
import Derived.Below
import Derived.Lib.SlKeysI
import Derived.Test.YtidmnoafhdhhlaaGreatDoorVE15
set_option linter.all false
namespace Go.VE
noncomputable section
open Go Go.Proofs Go.RowKit
def insI (x : Nat) : List Nat → List Nat
  | [] => [x]
  | y :: l => br (Nat.ble x y) (x :: y :: l) (y :: insI x l)
def sortK : List (AV × AV) → Option (List Nat)
  | [] => some []
  | (.int j u, _) :: l => br (Nat.beq j 3) (br (Nat.blt u 9223372036854775808) ((sortK l).map (insI u)) none) none
  | _ => none
def ksT : List Nat → Nat → T AV → T AV
  | [], _, t => t
  | u :: l, i, t => ksT l (i + 1) (t.put (some (.int 3 u)) (i + 1))
def chR (l : Option (List Nat)) (h : H) (n : Nat) (k : K) : RR := match l with
  | none => .fail
  | some [] => k .nils h n
  | some ks => frc (lenL ks) fun m => br (Nat.blt m 16777216) (alloc (.cells m 1 (ksT ks 0 .nil)) h n fun h' n' => k (.sl n 0 m m true) h' n') .fail
def iChanged (fld : Nat) : List AV → H → Nat → K → RR
  | [.ptr b off], h, n, k => rdO (off + fld) (getO h b) h n fun v h n => (match v with
    | .map m => (match getO h m with
      | some (.map l) => chR (sortK l) h n k
      | _ => .fail)
    | _ => .fail)
  | _, _, _, _ => .fail
def ChLaw (P : Program) (f fld kt : Nat) : Prop := ∀ (W : World) (r o b nn : Nat) (D0 : DataW Unit) (R : Value → Option (DataW Unit × List MemPlace)),
  W.cell? ⟨r, o + fld, none⟩ = some (.map (some b)) → W.ownsMap P kt R b nn D0 → Maps.size D0 ≤ 16777216 →
  Calls P f #[.pointer (some ⟨r, o, none⟩)] W fun e w' => ∃ (v : Value) (ss : List Int), e = .returned v ∧ ss.Perm (intKeys D0) ∧ Below W.heap.size W w' ∧
    ((ss = [] ∧ v = .slice none 0 0) ∨ ∃ g cap cur, ss ≠ [] ∧ v = .slice (some ⟨g, 0, none⟩) ss.length ss.length ∧ W.heap.size ≤ g ∧ w'.heap[g]? = some (.cells cur kt (0, 0)) ∧ ss.length ≤ cap ∧ cur.size = cap ∧ cur.toList.take ss.length = (ss.mergeSort leI).map encZ)
theorem insI_perm (x : Nat) : ∀ l : List Nat, (insI x l).Perm (x :: l)
  | [] => .refl _
  | y :: l => by
    unfold insI
    rw [br_if]
    split
    · exact .refl _
    · exact ((insI_perm x l).cons y).trans (.swap x y l)
theorem insI_sorted (x : Nat) : ∀ l : List Nat, l.Pairwise (· ≤ ·) → (insI x l).Pairwise (· ≤ ·)
  | [], _ => by simp [insI]
  | y :: l, h => by
    unfold insI
    rw [br_if]
    rw [List.pairwise_cons] at h
    split
    · rename_i h1
      rw [Nat.ble_eq] at h1
      refine List.pairwise_cons.2 ⟨fun z hz => ?_, List.pairwise_cons.2 h⟩
      rcases List.mem_cons.1 hz with rfl | hz
      · exact h1
      · exact Nat.le_trans h1 (h.1 z hz)
    · rename_i h1
      rw [Nat.ble_eq] at h1
      refine List.pairwise_cons.2 ⟨fun z hz => ?_, insI_sorted x l h.2⟩
      rcases List.mem_cons.1 ((insI_perm x l).subset hz) with rfl | hz
      · omega
      · exact h.1 z hz
def keyI (l : List (AV × AV)) : List Nat := l.map fun p => match p.1 with | .int _ u => u | _ => 0
theorem sortK_spec : ∀ {l : List (AV × AV)} {ks : List Nat}, sortK l = some ks → ks.Perm (keyI l) ∧ ks.Pairwise (· ≤ ·) ∧ ∀ p ∈ l, ∃ u, p.1 = .int 3 u ∧ u < 9223372036854775808
  | [], ks, h => by cases h; exact ⟨.refl _, .nil, fun p hp => nomatch hp⟩
  | (a, v) :: l, ks, h => by
    cases a <;> first | (exact absurd (show none = some ks from h) (by simp)) | skip
    rename_i j u
    simp only [sortK] at h
    obtain ⟨h1, h'⟩ := br_some h
    obtain ⟨h2, h''⟩ := br_some h'
    rw [Nat.beq_eq] at h1; subst h1
    rw [Nat.blt_eq] at h2
    rw [Option.map_eq_some_iff] at h''
    obtain ⟨ks', h3, rfl⟩ := h''
    obtain ⟨g1, g2, g3⟩ := sortK_spec h3
    refine ⟨(insI_perm u ks').trans (g1.cons u), insI_sorted u ks' g2, fun p hp => ?_⟩
    rcases List.mem_cons.1 hp with rfl | hp
    · exact ⟨u, rfl, h2⟩
    · exact g3 p hp
theorem insert_perm {H : Type} (x : Lit × DataW H) : ∀ l : List (Lit × DataW H), (DataW.insert x l).Perm (x :: l)
  | [] => .refl _
  | y :: l => by
    unfold DataW.insert
    split
    · exact .refl _
    · exact ((insert_perm x l).cons y).trans (.swap x y l)
theorem inserts_perm {H : Type} : ∀ l : List (Lit × DataW H), (l.foldr DataW.insert []).Perm l
  | [] => .refl _
  | x :: l => (insert_perm x _).trans ((inserts_perm l).cons x)
theorem ksT_at : ∀ (ks : List Nat) {i : Nat} {t : T AV} (j : Nat), i + ks.length ≤ top →
    cellAt (ksT ks i t) j = if h : i ≤ j ∧ j < i + ks.length then .int 3 (ks[j - i]'(by omega)) else cellAt t j
  | [], i, t, j, _ => by rw [dif_neg (by simp only [List.length_nil]; omega)]; rfl
  | u :: ks, i, t, j, hb => by
    simp only [List.length_cons] at hb ⊢
    unfold ksT
    rw [ksT_at ks j (by omega), cellAt_put (by omega)]
    by_cases h1 : i + 1 ≤ j ∧ j < i + 1 + ks.length
    · rw [dif_pos h1, dif_pos (by omega)]
      congr 1
      have : j - i = (j - (i + 1)) + 1 := by omega
      simp only [this, List.getElem_cons_succ]
    · rw [dif_neg h1]
      by_cases h2 : j = i
      · subst h2; rw [if_pos rfl, dif_pos (by simp)]; simp
      · rw [if_neg h2, dif_neg (by omega)]
theorem Goes.below {ρ : Mp} {h : H} {n : Nat} {w w' : World} (hi : Inv ρ h n w) (hb : Below w.heap.size w w') : Goes ρ h n w ρ h n w' :=
  ⟨⟨fun b o ho => by
      obtain ⟨r, base, h1, h2⟩ := hi.obj b o ho
      exact ⟨r, base, h1, by rw [hb.block r (hi.rng b r base h1)]; exact h2⟩, hi.inj, hi.dom, fun b r x h => Nat.lt_of_lt_of_le (hi.rng b r x h) hb.size, hi.lim, hi.st⟩,
    Mp.le_refl _, Nat.le_refl _, hb.size, fun r hr _ => hb.block r hr, fun _ _ h => h, hb.os, hb.output⟩
theorem encI_small {u : Nat} (h : u < 9223372036854775808) {m : Int} (hm : inK .i64 m) (e : u = encI .i64 m) : m = u :=
  enc_inj hm (by unfold inK; rw [(minmax .i64).1, (minmax .i64).2]; simp only; omega) (by rw [← e]; exact (encI_nat (by omega)).symm)
theorem changed_law {P : Program} {f fld kt : Nat} (hkt : P.underlying kt = some (.int .i64)) (hC : ChLaw P f fld kt) (hcb : Callable P f) {args : List AV} {h : H} {n : Nat} {k : K} {rr : RR} (hr : iChanged fld args h n k = rr) (hne : rr ≠ .fail) : CallLaw P f args h n k rr := by
  refine .inl ⟨hcb, fun ρ w as hi ha => ?_⟩
  cases args with
  | nil => exact absurd hr.symm hne
  | cons a0 rest => ?_
  cases rest with
  | cons a1 rest => cases a0 <;> exact absurd hr.symm hne
  | nil => ?_
  cases a0 <;> try exact absurd hr.symm hne
  rename_i b off
  · obtain ⟨v, rfl, hv⟩ := relS1 ha
    obtain ⟨r, o, hρ, rfl⟩ := ptr_inv hv
    simp only [iChanged] at hr
    cases ho : getO h b with
    | none => rw [ho] at hr; exact absurd hr.symm hne
    | some ao =>
      rw [ho] at hr
      cases ao with
      | map l => exact absurd hr.symm hne
      | var vt nn t =>
        simp only [rdO] at hr
        obtain ⟨hlt, hr⟩ := br_fail hr hne
        rw [Nat.blt_eq] at hlt
        obtain ⟨r', base, h1, h2⟩ := hi.obj b _ ho
        rw [hρ] at h1; cases h1
        obtain ⟨c, e, fz, h3, _, h4⟩ := relO_cells (relO_var h2).2.1
        obtain ⟨cv, h5, h6, _⟩ := h4 _ hlt
        generalize cellAt t (off + fld) = av at h6 hr
        cases av <;> try exact absurd hr.symm hne
        rename_i mb
        simp only [rel] at h6
        obtain ⟨rm, hρm, rfl⟩ := h6
        simp only at hr
        cases hom : getO h mb with
        | none => rw [hom] at hr; exact absurd hr.symm hne
        | some am =>
          rw [hom] at hr
          cases am <;> try exact absurd hr.symm hne
          rename_i l
          simp only at hr
          obtain ⟨rm', bm, g1, g2⟩ := hi.obj mb _ hom
          rw [hρm] at g1; cases g1
          obtain ⟨es, clock, g3, _, hst, hlen, hat⟩ := relO_map g2
          cases hs : sortK l with
          | none => rw [hs] at hr; exact absurd hr.symm hne
          | some ks =>
            rw [hs] at hr
            obtain ⟨k1, k2, k3⟩ := sortK_spec hs
            have hkey : ∀ i (hi : i < l.length) (hj : i < es.toList.length), ∃ u : Nat, (keyI l)[i]'(by simpa [keyI] using hi) = u ∧ (es.toList[i]'hj).key = encZ u ∧ u < 9223372036854775808 := fun i hi' hj => by
              obtain ⟨u, q1, q2⟩ := k3 _ (List.getElem_mem hi')
              have q3 := (hat i hi' hj).1
              rw [q1] at q3
              obtain ⟨m, q4, q5, q6⟩ := int_inv (kd := .i64) q3
              have := encI_small q2 q6 q5
              subst this
              exact ⟨u, by simp [keyI, q1], q4, q2⟩
            have hrd : ∀ x ∈ es.toList, ∃ u : Nat, x.key = encZ u ∧ u < 9223372036854775808 := fun x hx => by
              obtain ⟨i, hj, rfl⟩ := List.getElem_of_mem hx
              obtain ⟨u, _, q2, q3⟩ := hkey i (by omega) hj
              exact ⟨u, q2, q3⟩
            have hwf : ∀ u : Nat, u < 9223372036854775808 → (Lit.int .i64 (u : Int)).wf = true := fun u hu => by
              simp only [Lit.wf, Bool.and_eq_true, decide_eq_true_eq]
              rw [(minmax .i64).1, (minmax .i64).2]; simp only; omega
            have hko : ∀ u : Nat, u < 9223372036854775808 → keyOf P kt (encZ u) = some (.int .i64 u) := fun u hu => by
              simp [keyOf, hkt, mapKey, hwf u hu]
            let R : Value → Option (DataW Unit × List MemPlace) := fun _ => some (.nil, [])
            have hrg : ∀ x ∈ es.toList, ∀ u : Nat, x.key = encZ u → u < 9223372036854775808 → WideElems.rd P kt R x = some (.int .i64 u, .nil) := fun x hx u q1 q2 => by
              simp only [WideElems.rd, q1, hko u q2]; rfl
            have hln : ks.length = l.length := by rw [k1.length_eq]; simp [keyI]
            have hroom : ks.length ≤ 16777216 := by
              cases ks with
              | nil => simp
              | cons u ks' =>
                simp only [chR, frc_eq, lenL_eq] at hr
                obtain ⟨hx, _⟩ := br_fail hr hne
                rw [Nat.blt_eq] at hx; omega
            have hsz : es.size = l.length := by rw [← hlen]; simp
            have hfit : WideElems.Fit P kt R es clock := ⟨by rw [hsz, ← hln]; exact Nat.le_trans hroom (by decide), hst, fun x hx => by
              obtain ⟨u, q1, q2⟩ := hrd x hx
              exact ⟨_, hrg x hx u q1 q2⟩⟩
            have hown : w.ownsMap P kt R rm es.size (.map ((es.toList.map (WideElems.rg P kt R)).foldr DataW.insert [])) := ⟨es, clock, g3, hfit, Nat.le_refl _, rfl⟩
            have hcell : w.cell? ⟨r, o + off + fld, none⟩ = some (.map (some rm)) := by
              simp only [World.cell?, h3]
              rw [Nat.add_assoc]; exact h5
            have hints : (es.toList.map (WideElems.rg P kt R)).map (fun p => intOf p.1) = (keyI l).map (fun u : Nat => (u : Int)) := by
              refine List.ext_getElem (by simp [keyI, hsz]) fun i e1 e2 => ?_
              simp only [List.length_map] at e1
              obtain ⟨u, q1, q2, q3⟩ := hkey i (by omega) e1
              simp only [List.getElem_map, q1]
              rw [WideElems.rg_of (hrg _ (List.getElem_mem e1) u q2 q3)]
              rfl
            refine (hC w r (o + off) rm es.size _ R hcell hown (by rw [Maps.size_eq, (inserts_perm _).length_eq]; simp only [List.length_map, Array.length_toList]; omega)).mono fun e w' hp => ?_
            obtain ⟨v, ss, rfl, hperm, hB, hcase⟩ := hp
            have hss : ss.Perm (ks.map fun u : Nat => (u : Int)) := by
              refine hperm.trans ?_
              show (((es.toList.map (WideElems.rg P kt R)).foldr DataW.insert []).map fun p => intOf p.1).Perm _
              refine ((inserts_perm _).map _).trans ?_
              rw [hints]
              exact (k1.symm.map _)
            have hlss : ss.length = ks.length := by rw [hss.length_eq, List.length_map]
            have hsrt : ss.mergeSort leI = ks.map fun u : Nat => (u : Int) := by
              rw [mergeSort_of_perm_i hss]
              refine List.mergeSort_of_pairwise ?_
              rw [List.pairwise_map]
              exact k2.imp fun h => by simp only [leI, decide_eq_true_eq]; omega
            have hG := Goes.below hi hB
            cases hks : ks with
            | nil =>
              rw [hks] at hr hlss
              rcases hcase with ⟨_, rfl⟩ | ⟨_, _, _, hne', _⟩
              · exact ⟨_, rfl, .nils, h, n, ρ, hr, hG, by simp only [rel]⟩
              · exact absurd (List.eq_nil_of_length_eq_zero hlss) hne'
            | cons u0 ks' =>
              have hchr : chR (some ks) h n k = frc (lenL ks) fun m => br (Nat.blt m 16777216) (alloc (.cells m 1 (ksT ks 0 .nil)) h n fun h' n' => k (.sl n 0 m m true) h' n') .fail := by rw [hks]; rfl
              rw [hchr, frc_eq, lenL_eq] at hr
              obtain ⟨_, hr⟩ := br_fail hr hne
              obtain ⟨ht, _, hr⟩ := alloc_inv hr hne
              rcases hcase with ⟨hx, _⟩ | ⟨g, cap, cur, _, rfl, hg0, hg, hcap, hcs, htk⟩
              · rw [hx, hks] at hlss; cases hlss
              · rw [hsrt, hlss] at htk
                have hadopt := hG.adopt (ao := .cells ks.length 1 (ksT ks 0 .nil)) (y := (1, cur.size)) hi.kg hg0 hg (fun hl => by
                  obtain ⟨b', o', x', _, _, q⟩ := hl
                  have := hi.rng _ _ _ q; omega) ht (by
                  refine ⟨⟨fun _ => rfl, .inl rfl⟩, by omega, fun i hi' => ⟨encZ (ks[i]'hi'), ?_, ?_, ?_, by simp⟩⟩
                  · have := congrArg (fun z => z[i]?) htk
                    simp only [List.getElem?_take, hi', if_true, List.map_map, List.getElem?_map, List.getElem?_eq_getElem hi', Option.map_some, Array.getElem?_toList] at this
                    rw [Nat.zero_add]; exact this
                  · rw [ksT_at ks i (by unfold top; omega), dif_pos (by omega)]
                    simp only [Nat.sub_zero]
                    have hmem : ks[i] ∈ keyI l := k1.subset (List.getElem_mem hi')
                    obtain ⟨pr, p1, p2⟩ := List.mem_map.1 hmem
                    obtain ⟨u, p3, p4⟩ := k3 pr p1
                    rw [p3] at p2
                    have hu : ks[i] < 9223372036854775808 := by rw [← p2]; exact p4
                    simp only [rel]
                    exact ⟨.i64, _, rfl, rfl, (encI_nat (by omega)).symm, by rw [(minmax .i64).1]; simp only; omega, by rw [(minmax .i64).2]; simp only; omega⟩
                  · rw [ksT_at ks i (by unfold top; omega), dif_pos (by omega)]; rfl)
                refine ⟨_, rfl, _, _, _, _, hr, hadopt, ?_⟩
                rw [hlss]
                simp only [rel]
                exact ⟨g, 0, 0, ks.length, Mp.ext_same _ _ _ _, rfl, Nat.le_refl _, Nat.le_refl _, fun _ => rfl, .inl rfl, fun h => by cases h⟩
      | rowb _ _ _ _ => exact absurd hr.symm hne
      | bytes m x =>
        simp only [rdO] at hr
        obtain ⟨_, hr⟩ := br_fail hr hne
        rw [frc_eq] at hr; exact absurd hr.symm hne
      | cells nn es t =>
        simp only [rdO] at hr
        obtain ⟨hlt, hr⟩ := br_fail hr hne
        rw [Nat.blt_eq] at hlt
        obtain ⟨r', base, h1, h2⟩ := hi.obj b _ ho
        rw [hρ] at h1; cases h1
        obtain ⟨c, e, fz, h3, _, h4⟩ := relO_cells h2
        obtain ⟨cv, h5, h6, _⟩ := h4 _ hlt
        generalize cellAt t (off + fld) = av at h6 hr
        cases av <;> try exact absurd hr.symm hne
        rename_i mb
        simp only [rel] at h6
        obtain ⟨rm, hρm, rfl⟩ := h6
        simp only at hr
        cases hom : getO h mb with
        | none => rw [hom] at hr; exact absurd hr.symm hne
        | some am =>
          rw [hom] at hr
          cases am <;> try exact absurd hr.symm hne
          rename_i l
          simp only at hr
          obtain ⟨rm', bm, g1, g2⟩ := hi.obj mb _ hom
          rw [hρm] at g1; cases g1
          obtain ⟨es, clock, g3, _, hst, hlen, hat⟩ := relO_map g2
          cases hs : sortK l with
          | none => rw [hs] at hr; exact absurd hr.symm hne
          | some ks =>
            rw [hs] at hr
            obtain ⟨k1, k2, k3⟩ := sortK_spec hs
            have hkey : ∀ i (hi : i < l.length) (hj : i < es.toList.length), ∃ u : Nat, (keyI l)[i]'(by simpa [keyI] using hi) = u ∧ (es.toList[i]'hj).key = encZ u ∧ u < 9223372036854775808 := fun i hi' hj => by
              obtain ⟨u, q1, q2⟩ := k3 _ (List.getElem_mem hi')
              have q3 := (hat i hi' hj).1
              rw [q1] at q3
              obtain ⟨m, q4, q5, q6⟩ := int_inv (kd := .i64) q3
              have := encI_small q2 q6 q5
              subst this
              exact ⟨u, by simp [keyI, q1], q4, q2⟩
            have hrd : ∀ x ∈ es.toList, ∃ u : Nat, x.key = encZ u ∧ u < 9223372036854775808 := fun x hx => by
              obtain ⟨i, hj, rfl⟩ := List.getElem_of_mem hx
              obtain ⟨u, _, q2, q3⟩ := hkey i (by omega) hj
              exact ⟨u, q2, q3⟩
            have hwf : ∀ u : Nat, u < 9223372036854775808 → (Lit.int .i64 (u : Int)).wf = true := fun u hu => by
              simp only [Lit.wf, Bool.and_eq_true, decide_eq_true_eq]
              rw [(minmax .i64).1, (minmax .i64).2]; simp only; omega
            have hko : ∀ u : Nat, u < 9223372036854775808 → keyOf P kt (encZ u) = some (.int .i64 u) := fun u hu => by
              simp [keyOf, hkt, mapKey, hwf u hu]
            let R : Value → Option (DataW Unit × List MemPlace) := fun _ => some (.nil, [])
            have hrg : ∀ x ∈ es.toList, ∀ u : Nat, x.key = encZ u → u < 9223372036854775808 → WideElems.rd P kt R x = some (.int .i64 u, .nil) := fun x hx u q1 q2 => by
              simp only [WideElems.rd, q1, hko u q2]; rfl
            have hln : ks.length = l.length := by rw [k1.length_eq]; simp [keyI]
            have hroom : ks.length ≤ 16777216 := by
              cases ks with
              | nil => simp
              | cons u ks' =>
                simp only [chR, frc_eq, lenL_eq] at hr
                obtain ⟨hx, _⟩ := br_fail hr hne
                rw [Nat.blt_eq] at hx; omega
            have hsz : es.size = l.length := by rw [← hlen]; simp
            have hfit : WideElems.Fit P kt R es clock := ⟨by rw [hsz, ← hln]; exact Nat.le_trans hroom (by decide), hst, fun x hx => by
              obtain ⟨u, q1, q2⟩ := hrd x hx
              exact ⟨_, hrg x hx u q1 q2⟩⟩
            have hown : w.ownsMap P kt R rm es.size (.map ((es.toList.map (WideElems.rg P kt R)).foldr DataW.insert [])) := ⟨es, clock, g3, hfit, Nat.le_refl _, rfl⟩
            have hcell : w.cell? ⟨r, o + off + fld, none⟩ = some (.map (some rm)) := by
              simp only [World.cell?, h3]
              rw [Nat.add_assoc]; exact h5
            have hints : (es.toList.map (WideElems.rg P kt R)).map (fun p => intOf p.1) = (keyI l).map (fun u : Nat => (u : Int)) := by
              refine List.ext_getElem (by simp [keyI, hsz]) fun i e1 e2 => ?_
              simp only [List.length_map] at e1
              obtain ⟨u, q1, q2, q3⟩ := hkey i (by omega) e1
              simp only [List.getElem_map, q1]
              rw [WideElems.rg_of (hrg _ (List.getElem_mem e1) u q2 q3)]
              rfl
            refine (hC w r (o + off) rm es.size _ R hcell hown (by rw [Maps.size_eq, (inserts_perm _).length_eq]; simp only [List.length_map, Array.length_toList]; omega)).mono fun e w' hp => ?_
            obtain ⟨v, ss, rfl, hperm, hB, hcase⟩ := hp
            have hss : ss.Perm (ks.map fun u : Nat => (u : Int)) := by
              refine hperm.trans ?_
              show (((es.toList.map (WideElems.rg P kt R)).foldr DataW.insert []).map fun p => intOf p.1).Perm _
              refine ((inserts_perm _).map _).trans ?_
              rw [hints]
              exact (k1.symm.map _)
            have hlss : ss.length = ks.length := by rw [hss.length_eq, List.length_map]
            have hsrt : ss.mergeSort leI = ks.map fun u : Nat => (u : Int) := by
              rw [mergeSort_of_perm_i hss]
              refine List.mergeSort_of_pairwise ?_
              rw [List.pairwise_map]
              exact k2.imp fun h => by simp only [leI, decide_eq_true_eq]; omega
            have hG := Goes.below hi hB
            cases hks : ks with
            | nil =>
              rw [hks] at hr hlss
              rcases hcase with ⟨_, rfl⟩ | ⟨_, _, _, hne', _⟩
              · exact ⟨_, rfl, .nils, h, n, ρ, hr, hG, by simp only [rel]⟩
              · exact absurd (List.eq_nil_of_length_eq_zero hlss) hne'
            | cons u0 ks' =>
              have hchr : chR (some ks) h n k = frc (lenL ks) fun m => br (Nat.blt m 16777216) (alloc (.cells m 1 (ksT ks 0 .nil)) h n fun h' n' => k (.sl n 0 m m true) h' n') .fail := by rw [hks]; rfl
              rw [hchr, frc_eq, lenL_eq] at hr
              obtain ⟨_, hr⟩ := br_fail hr hne
              obtain ⟨ht, _, hr⟩ := alloc_inv hr hne
              rcases hcase with ⟨hx, _⟩ | ⟨g, cap, cur, _, rfl, hg0, hg, hcap, hcs, htk⟩
              · rw [hx, hks] at hlss; cases hlss
              · rw [hsrt, hlss] at htk
                have hadopt := hG.adopt (ao := .cells ks.length 1 (ksT ks 0 .nil)) (y := (1, cur.size)) hi.kg hg0 hg (fun hl => by
                  obtain ⟨b', o', x', _, _, q⟩ := hl
                  have := hi.rng _ _ _ q; omega) ht (by
                  refine ⟨⟨fun _ => rfl, .inl rfl⟩, by omega, fun i hi' => ⟨encZ (ks[i]'hi'), ?_, ?_, ?_, by simp⟩⟩
                  · have := congrArg (fun z => z[i]?) htk
                    simp only [List.getElem?_take, hi', if_true, List.map_map, List.getElem?_map, List.getElem?_eq_getElem hi', Option.map_some, Array.getElem?_toList] at this
                    rw [Nat.zero_add]; exact this
                  · rw [ksT_at ks i (by unfold top; omega), dif_pos (by omega)]
                    simp only [Nat.sub_zero]
                    have hmem : ks[i] ∈ keyI l := k1.subset (List.getElem_mem hi')
                    obtain ⟨pr, p1, p2⟩ := List.mem_map.1 hmem
                    obtain ⟨u, p3, p4⟩ := k3 pr p1
                    rw [p3] at p2
                    have hu : ks[i] < 9223372036854775808 := by rw [← p2]; exact p4
                    simp only [rel]
                    exact ⟨.i64, _, rfl, rfl, (encI_nat (by omega)).symm, by rw [(minmax .i64).1]; simp only; omega, by rw [(minmax .i64).2]; simp only; omega⟩
                  · rw [ksT_at ks i (by unfold top; omega), dif_pos (by omega)]; rfl)
                refine ⟨_, rfl, _, _, _, _, hr, hadopt, ?_⟩
                rw [hlss]
                simp only [rel]
                exact ⟨g, 0, 0, ks.length, Mp.ext_same _ _ _ _, rfl, Nat.le_refl _, Nat.le_refl _, fun _ => rfl, .inl rfl, fun h => by cases h⟩
end
end Go.VE
namespace Go.VE
noncomputable section
open Go Go.Proofs Go.RowKit
def isInt (v : AV) (f : Nat → Nat → Bool) : Bool :=
  @AV.casesOn (fun _ => Bool) v false f (fun _ => false) (fun _ _ => false) (fun _ _ _ _ _ => false) (fun _ _ => false) (fun _ _ => false) false false false false false (fun _ => false) (fun _ _ => false) (fun _ => false) (fun _ => false) false (fun _ _ => false) (fun _ => false) (fun _ _ _ => false)
def isCons (v : AV) (f : AV → AV → Bool) : Bool :=
  @AV.casesOn (fun _ => Bool) v false (fun _ _ => false) (fun _ => false) (fun _ _ => false) (fun _ _ _ _ _ => false) (fun _ _ => false) (fun _ _ => false) false false false false false (fun _ => false) (fun _ _ => false) (fun _ => false) (fun _ => false) false f (fun _ => false) (fun _ _ _ => false)
noncomputable def samA (a : AV) : AV → Bool :=
  @AV.rec (fun _ => AV → Bool)
    (fun b => match b with | .undef => true | _ => false)
    (fun k u b => isInt b fun k' u' => br (Nat.beq k k') (Nat.beq u u') false)
    (fun x b => match b with | .bool y => br x y (!y) | _ => false)
    (fun p o b => match b with | .ptr p' o' => br (Nat.beq p p') (Nat.beq o o') false | _ => false)
    (fun p o l c x b => match b with | .sl p' o' l' c' y => br (Nat.beq p p') (br (Nat.beq o o') (br (Nat.beq l l') (br (Nat.beq c c') (br x y (!y)) false) false) false) false | _ => false)
    (fun n x b => match b with | .str n' x' => br (Nat.beq n n') (Nat.beq x x') false | _ => false)
    (fun t _ ih b => match b with | .iface t' v' => br (Nat.beq t t') (ih v') false | _ => false)
    (fun b => match b with | .nilp => true | _ => false)
    (fun b => match b with | .nils => true | _ => false)
    (fun b => match b with | .nili => true | _ => false)
    (fun b => match b with | .nilm => true | _ => false)
    (fun b => match b with | .nilf => true | _ => false)
    (fun p b => match b with | .map p' => Nat.beq p p' | _ => false)
    (fun f _ ih b => match b with | .func f' c' => br (Nat.beq f f') (ih c') false | _ => false)
    (fun _ ih b => match b with | .agg l' => ih l' | _ => false)
    (fun _ ih b => match b with | .tup l' => ih l' | _ => false)
    (fun b => match b with | .nl => true | _ => false)
    (fun _ _ iha ihl b => isCons b fun a' l' => br (iha a') (ihl l') false)
    (fun p b => match b with | .yld p' => Nat.beq p p' | _ => false)
    (fun k m x b => match b with | .ukn k' m' x' => br (Nat.beq k k') (br (Nat.beq m m') (Nat.beq x x') false) false | _ => false) a
theorem brb {c a : Bool} (h : br c a false = true) : c = true ∧ a = true := by cases c <;> first | exact ⟨rfl, h⟩ | cases h
theorem bre {x y : Bool} (h : br x y (!y) = true) : x = y := by cases x <;> cases y <;> first | rfl | cases h
theorem samA_ok : ∀ (a b : AV), samA a b = true → a = b := by
  intro a
  induction a with
  | undef => intro b h; cases b <;> first | rfl | cases h
  | int k u => intro b h; cases b <;> first | (obtain ⟨h1, h2⟩ := brb (show br _ _ false = true from h); rw [beq_n h1, beq_n h2]) | cases h
  | bool x => intro b h; cases b <;> first | (rw [bre h]) | cases h
  | ptr p o => intro b h; cases b <;> first | (obtain ⟨h1, h2⟩ := brb (show br _ _ false = true from h); rw [beq_n h1, beq_n h2]) | cases h
  | sl p o l c x =>
    intro b h
    cases b <;> first
      | (obtain ⟨h1, h⟩ := brb (show br _ _ false = true from h)
         obtain ⟨h2, h⟩ := brb h
         obtain ⟨h3, h⟩ := brb h
         obtain ⟨h4, h⟩ := brb h
         rw [beq_n h1, beq_n h2, beq_n h3, beq_n h4, bre h])
      | cases h
  | str n x => intro b h; cases b <;> first | (obtain ⟨h1, h2⟩ := brb (show br _ _ false = true from h); rw [beq_n h1, beq_n h2]) | cases h
  | iface t v ih => intro b h; cases b <;> first | (obtain ⟨h1, h2⟩ := brb (show br _ _ false = true from h); rw [beq_n h1, ih _ h2]) | cases h
  | nilp => intro b h; cases b <;> first | rfl | cases h
  | nils => intro b h; cases b <;> first | rfl | cases h
  | nili => intro b h; cases b <;> first | rfl | cases h
  | nilm => intro b h; cases b <;> first | rfl | cases h
  | nilf => intro b h; cases b <;> first | rfl | cases h
  | map p => intro b h; cases b <;> first | (rw [beq_n h]) | cases h
  | func f c ih => intro b h; cases b <;> first | (obtain ⟨h1, h2⟩ := brb (show br _ _ false = true from h); rw [beq_n h1, ih _ h2]) | cases h
  | agg l ih => intro b h; cases b <;> first | (rw [ih _ h]) | cases h
  | tup l ih => intro b h; cases b <;> first | (rw [ih _ h]) | cases h
  | nl => intro b h; cases b <;> first | rfl | cases h
  | cons a l iha ihl =>
    intro b h
    cases b <;> first
      | (rename_i a' l'
         have e : samA (.cons a l) (.cons a' l') = br (samA a a') (samA l l') false := rfl
         rw [e] at h
         obtain ⟨h1, h2⟩ := brb h
         rw [iha _ h1, ihl _ h2])
      | cases h
  | yld p => intro b h; cases b <;> first | (rw [beq_n h]) | cases h
  | ukn k m x => intro b h; cases b <;> first | (obtain ⟨h1, h⟩ := brb (show br _ _ false = true from h); obtain ⟨h2, h3⟩ := brb h; rw [beq_n h1, beq_n h2, beq_n h3]) | cases h
noncomputable def samO (a b : Option AV) : Bool := match a, b with | some x, some y => samA x y | none, none => true | _, _ => false
theorem samO_ok {a b : Option AV} (h : samO a b = true) : a = b := by
  cases a <;> cases b <;> first | rfl | (rw [samA_ok _ _ h]) | cases h
noncomputable def samT (a : T AV) : T AV → Bool :=
  @T.rec AV (fun _ => T AV → Bool) (fun b => match b with | .nil => true | _ => false)
    (fun _ v _ gl gr b => match b with | .node l' v' r' => br (samO v v') (br (gl l') (gr r') false) false | _ => false) a
theorem samT_ok : ∀ (a b : T AV), samT a b = true → a = b := by
  intro a
  induction a with
  | nil => intro b h; cases b <;> first | rfl | cases h
  | node l v r ihl ihr =>
    intro b h
    cases b <;> first
      | (obtain ⟨h1, h⟩ := brb (show br _ _ false = true from h)
         obtain ⟨h2, h3⟩ := brb h
         rw [samO_ok h1, ihl _ h2, ihr _ h3])
      | cases h
noncomputable def samM : List (AV × AV) → List (AV × AV) → Bool
  | [], [] => true
  | (a, b) :: l, (c, d) :: m => br (samA a c) (br (samA b d) (samM l m) false) false
  | _, _ => false
theorem samM_ok : ∀ {l m : List (AV × AV)}, samM l m = true → l = m
  | [], [], _ => rfl
  | (a, b) :: l, (c, d) :: m, h => by
    obtain ⟨h1, h⟩ := brb (show br _ _ false = true from h)
    obtain ⟨h2, h3⟩ := brb h
    rw [samA_ok _ _ h1, samA_ok _ _ h2, samM_ok h3]
  | [], _ :: _, h => by cases h
  | _ :: _, [], h => by cases h
noncomputable def samB (a b : AO) : Bool := match a, b with
  | .cells n e t, .cells n' e' t' => br (Nat.beq n n') (br (Nat.beq e e') (samT t t') false) false
  | .bytes n x, .bytes n' x' => br (Nat.beq n n') (Nat.beq x x') false
  | .map l, .map l' => samM l l'
  | .rowb a m n x, .rowb a' m' n' x' => br (Nat.beq a a') (br (Nat.beq m m') (br (Nat.beq n n') (Nat.beq x x') false) false) false
  | .var a n t, .var a' n' t' => br (Nat.beq a a') (br (Nat.beq n n') (samT t t') false) false
  | _, _ => false
theorem samB_ok {a b : AO} (h : samB a b = true) : a = b := by
  cases a <;> cases b <;> simp only [samB] at h <;> try (exact absurd h (by decide))
  · obtain ⟨h1, h⟩ := brb h
    obtain ⟨h2, h3⟩ := brb h
    rw [beq_n h1, beq_n h2, samT_ok _ _ h3]
  · obtain ⟨h1, h2⟩ := brb h
    rw [beq_n h1, beq_n h2]
  · rw [samM_ok h]
  · obtain ⟨h1, h⟩ := brb h
    obtain ⟨h2, h3⟩ := brb h
    rw [beq_n h1, beq_n h2, samT_ok _ _ h3]
  · obtain ⟨h1, h⟩ := brb h
    obtain ⟨h2, h⟩ := brb h
    obtain ⟨h3, h4⟩ := brb h
    rw [beq_n h1, beq_n h2, beq_n h3, beq_n h4]
noncomputable def samL : List AV → List AV → Bool
  | [], [] => true
  | a :: l, b :: m => br (samA a b) (samL l m) false
  | _, _ => false
theorem samL_ok : ∀ {l m : List AV}, samL l m = true → l = m
  | [], [], _ => rfl
  | a :: l, b :: m, h => by
    obtain ⟨h1, h2⟩ := brb (show br _ _ false = true from h)
    rw [samA_ok _ _ h1, samL_ok h2]
  | [], _ :: _, h => by cases h
  | _ :: _, [], h => by cases h
abbrev Part := List (Nat × AO)
def keysOk : Part → Bool
  | [] => true
  | (b, _) :: l => br (Nat.blt b 18446744073709551615) (keysOk l) false
def keysHi : Part → Bool
  | [] => true
  | (b, _) :: l => br (Nat.ble KG b) (keysHi l) false
noncomputable def subL (h : H) : Part → Bool
  | [] => true
  | (b, o) :: l => br (match getO h b with | some o' => samB o o' | none => false) (subL h l) false
def putsL : Part → H → H
  | [], h => h
  | (b, o) :: l, h => putsL l (setO h b o)
def delsL : Part → H → H
  | [], h => h
  | (b, _) :: l, h => delsL l (killO h b)
theorem subL_ok {h : H} : ∀ {l : Part}, subL h l = true → ∀ b o, (b, o) ∈ l → getO h b = some o
  | [], _, _, _, hm => nomatch hm
  | (c, p) :: l, hs, b, o, hm => by
    obtain ⟨h1, h2⟩ := brb (show br _ _ false = true from hs)
    rcases List.mem_cons.1 hm with e | hm
    · have e1 : b = c := congrArg Prod.fst e
      have e2 : o = p := congrArg Prod.snd e
      rw [e1, e2]
      cases hg : getO h c with
      | none => rw [hg] at h1; cases h1
      | some o' => rw [hg] at h1; rw [samB_ok h1]
    · exact subL_ok h2 b o hm
theorem putsL_at : ∀ {l : Part} {h : H}, keysOk l = true → ∀ {b : Nat} {o : AO}, getO (putsL l h) b = some o → (b, o) ∈ l ∨ ((∀ p, (b, p) ∉ l) ∧ getO h b = some o)
  | [], h, _, b, o, hg => .inr ⟨fun p hp => (nomatch hp), hg⟩
  | (c, p) :: l, h, hk, b, o, hg => by
    obtain ⟨h1, h2⟩ := brb (show br _ _ false = true from hk)
    rw [Nat.blt_eq] at h1
    rcases putsL_at h2 (show getO (putsL l (setO h c p)) b = some o from hg) with h3 | ⟨h3, h4⟩
    · exact .inl (List.mem_cons_of_mem _ h3)
    · rw [getO_setO h1] at h4
      split at h4
      · rename_i hb; subst hb; cases h4; exact .inl List.mem_cons_self
      · rename_i hb
        refine .inr ⟨fun q hq => ?_, h4⟩
        rcases List.mem_cons.1 hq with e | hq
        · cases e; exact hb rfl
        · exact h3 q hq
theorem delsL_at : ∀ {l : Part} {h : H}, keysOk l = true → ∀ {b : Nat} {o : AO}, getO (delsL l h) b = some o → (∀ p, (b, p) ∉ l) ∧ getO h b = some o
  | [], h, _, b, o, hg => ⟨fun p hp => (nomatch hp), hg⟩
  | (c, p) :: l, h, hk, b, o, hg => by
    obtain ⟨h1, h2⟩ := brb (show br _ _ false = true from hk)
    rw [Nat.blt_eq] at h1
    obtain ⟨h3, h4⟩ := delsL_at h2 (show getO (delsL l (killO h c)) b = some o from hg)
    rw [getO_killO h1] at h4
    split at h4
    · cases h4
    · rename_i hb
      refine ⟨fun q hq => ?_, h4⟩
      rcases List.mem_cons.1 hq with e | hq
      · cases e; exact hb rfl
      · exact h3 q hq
theorem keysHi_mem : ∀ {l : Part}, keysHi l = true → ∀ b o, (b, o) ∈ l → KG ≤ b
  | [], _, _, _, hm => nomatch hm
  | (c, p) :: l, hk, b, o, hm => by
    obtain ⟨h1, h2⟩ := brb (show br _ _ false = true from hk)
    rw [Nat.ble_eq] at h1
    rcases List.mem_cons.1 hm with e | hm
    · cases e; exact h1
    · exact keysHi_mem h2 b o hm
structure Memo where
  args : List AV
  keep : Part
  old : Part
  n0 : Nat
  v : AV
  new : Part
  n1 : Nat
def Memo.h0 (m : Memo) : H := putsL m.keep (putsL m.old .nil)
noncomputable def Memo.chk (m : Memo) : K := fun v h n => br (Nat.beq n m.n1) (br (samA m.v v) (br (subL h m.keep) (br (subL h m.new) (.fin .undef .nil 0) .fail) .fail) .fail) .fail
def Memo.good (m : Memo) : Bool := br (keysOk m.keep) (br (keysOk m.old) (br (keysOk m.new) (br (keysHi m.new) (br (Nat.ble m.n0 18446744073709551615) true false) false) false) false) false
noncomputable def iMemo (m : Memo) (args : List AV) (h : H) (n : Nat) (k : K) : RR :=
  br (samL m.args args) (br (Nat.ble n m.n0) (br (subL h m.keep) (br (subL h m.old) (k m.v (putsL m.new (delsL m.old h)) m.n1) .fail) .fail) .fail) .fail
theorem Inv.prune {ρ : Mp} {h g : H} {n m : Nat} {w : World} (hi : Inv ρ h n w) (hs : ∀ b o, getO g b = some o → getO h b = some o) (hn : n ≤ m) (hm : m ≤ 18446744073709551615) : Inv ρ g m w :=
  ⟨fun b o hb => hi.obj b o (hs b o hb), fun b c o p r x y hb hc => hi.inj b c o p r x y (hs b o hb) (hs c p hc), fun b hb => Nat.lt_of_lt_of_le (hi.dom b hb) hn, hi.rng, hm, hi.st⟩
theorem live_prune {ρ : Mp} {h g : H} (hs : ∀ b o, getO g b = some o → getO h b = some o) {r : Nat} (hl : live ρ g r) : live ρ h r := by
  obtain ⟨b, o, x, h1, h2, h3⟩ := hl
  exact ⟨b, o, x, h1, hs b o h2, h3⟩
theorem Memo.post {m : Memo} (hg : m.good = true) {ρ : Mp} {h : H} {n : Nat} {w : World} (hi : Inv ρ h n w) (hn : n ≤ m.n0) (hk : subL h m.keep = true) (ho : subL h m.old = true) {k : K} {rr : RR} (hr : k m.v (putsL m.new (delsL m.old h)) m.n1 = rr) {rv : Value} {w' : World}
    (hp : Post ρ m.h0 m.n0 w m.chk (.fin .undef .nil 0) rv w') : Post ρ h n w k rr rv w' := by
  obtain ⟨v, h1, n1, σ, p1, p2, p3⟩ := hp
  unfold Memo.chk at p1
  have hne : RR.fin .undef .nil 0 ≠ .fail := by simp
  obtain ⟨c1, p1⟩ := br_fail p1 hne
  obtain ⟨c2, p1⟩ := br_fail p1 hne
  obtain ⟨c3, p1⟩ := br_fail p1 hne
  obtain ⟨c4, _⟩ := br_fail p1 hne
  have := beq_n c1; subst this
  have := samA_ok _ _ c2; subst this
  obtain ⟨g1, hg'⟩ := brb (show br _ _ false = true from hg)
  obtain ⟨g2, hg'⟩ := brb hg'
  obtain ⟨g3, hg'⟩ := brb hg'
  obtain ⟨g4, g5⟩ := brb hg'
  have hhi : ∀ b o, (b, o) ∈ m.new → KG ≤ b := keysHi_mem g4
  have h0h : ∀ b o, getO m.h0 b = some o → getO h b = some o := fun b o hb => by
    rcases putsL_at g1 hb with q | ⟨_, q⟩
    · exact subL_ok hk b o q
    · rcases putsL_at g2 q with q | ⟨_, q⟩
      · exact subL_ok ho b o q
      · exact absurd q (by unfold getO; rw [T.get_nil]; simp)
  have two : ∀ b o, getO (putsL m.new (delsL m.old h)) b = some o → (getO h1 b = some o ∧ (KG ≤ b ∨ getO h b = some o)) ∨ (getO m.h0 b = none ∧ getO h b = some o) := fun b o hb => by
    rcases putsL_at g3 hb with q | ⟨_, q⟩
    · exact .inl ⟨subL_ok c4 b o q, .inl (hhi b o q)⟩
    · obtain ⟨q1, q2⟩ := delsL_at g2 q
      by_cases hx : ∃ p, (b, p) ∈ m.keep
      · obtain ⟨p, hp⟩ := hx
        have e := subL_ok hk b p hp
        rw [q2] at e; cases e
        exact .inl ⟨subL_ok c3 b o hp, .inr q2⟩
      · refine .inr ⟨?_, q2⟩
        cases h2 : getO m.h0 b with
        | none => rfl
        | some p =>
          rcases putsL_at g1 h2 with r | ⟨_, r⟩
          · exact absurd ⟨p, r⟩ hx
          · rcases putsL_at g2 r with r | ⟨_, r⟩
            · exact absurd r (q1 p)
            · exact absurd r (by unfold getO; rw [T.get_nil]; simp)
  have apart : ∀ c p r y, getO m.h0 c = none → getO h c = some p → σ c = some (r, y) → ρ c = some (r, y) ∧ r < w.heap.size ∧ ¬ live ρ m.h0 r := fun c p r y e1 e2 e3 => by
    obtain ⟨r', y', e4, _⟩ := hi.obj c p e2
    have e5 := p2.le.at_ _ _ e4
    rw [e3] at e5; cases e5
    refine ⟨e4, hi.rng _ _ _ e4, fun hl => ?_⟩
    obtain ⟨b, o, x, _, l2, l3⟩ := hl
    have := hi.inj b c o p r x y (h0h b o l2) e2 l3 e4
    subst this
    rw [e1] at l2; cases l2
  refine ⟨_, _, _, σ, hr, ⟨⟨fun b o hb => ?_, fun b c o p r x y hb hc q1 q2 => ?_, p2.inv.dom, p2.inv.rng, p2.inv.lim, p2.inv.st⟩, p2.le, Nat.le_trans hn p2.next, p2.size, fun r hr' hl => p2.keep r hr' (fun hx => hl (live_prune h0h hx)), fun r hr' hl => ?_, p2.io⟩, p3⟩
  · rcases two b o hb with ⟨q, _⟩ | ⟨q1, q2⟩
    · exact p2.inv.obj b o q
    · obtain ⟨r, base, e1, e2⟩ := hi.obj b o q2
      obtain ⟨_, e4, e5⟩ := apart b o r base q1 q2 (p2.le.at_ _ _ e1)
      refine ⟨r, base, p2.le.at_ _ _ e1, ?_⟩
      rw [p2.keep r e4 e5, p2.le.gs _ _ e1]
      exact relO_mono p2.le e2
  · have mix : ∀ b c o p x y, getO h1 b = some o → (KG ≤ b ∨ getO h b = some o) → getO m.h0 c = none → getO h c = some p → σ b = some (r, x) → σ c = some (r, y) → b = c := fun b c o p x y f1 f2 f3 f4 f5 f6 => by
      obtain ⟨e1, e2, e3⟩ := apart c p r y f3 f4 f6
      rcases f2 with f2 | f2
      · exact absurd (p2.lives r e2 ⟨b, o, x, f2, f1, f5⟩) e3
      · obtain ⟨r', x', e4, _⟩ := hi.obj b o f2
        have e5 := p2.le.at_ _ _ e4
        rw [f5] at e5; cases e5
        exact hi.inj b c o p r x y f2 f4 e4 e1
    rcases two b o hb with ⟨a1, a2⟩ | ⟨a1, a2⟩ <;> rcases two c p hc with ⟨b1, b2⟩ | ⟨b1, b2⟩
    · exact p2.inv.inj b c o p r x y a1 b1 q1 q2
    · exact mix b c o p x y a1 a2 b1 b2 q1 q2
    · exact (mix c b p o y x b1 b2 a1 a2 q2 q1).symm
    · obtain ⟨e1, _, _⟩ := apart b o r x a1 a2 q1
      obtain ⟨e2, _, _⟩ := apart c p r y b1 b2 q2
      exact hi.inj b c o p r x y a2 b2 e1 e2
  · obtain ⟨b, o, x, l1, l2, l3⟩ := hl
    rcases two b o l2 with ⟨q, _⟩ | ⟨q1, q2⟩
    · exact live_prune h0h (p2.lives r hr' ⟨b, o, x, l1, q, l3⟩)
    · obtain ⟨e1, _, _⟩ := apart b o r x q1 q2 l3
      exact ⟨b, o, x, l1, q2, e1⟩
theorem Memo.law {P : Program} {f : Nat} {call : CallT} (hc : CallOk P call) {m : Memo} (hg : m.good = true) (hrun : call f m.args m.h0 m.n0 m.chk = .fin .undef .nil 0) {args : List AV} {h : H} {n : Nat} {k : K} {rr : RR} (hr : iMemo m args h n k = rr) (hne : rr ≠ .fail) : CallLaw P f args h n k rr := by
  unfold iMemo at hr
  obtain ⟨h1, hr1⟩ := br_fail hr hne
  obtain ⟨h2, hr2⟩ := br_fail hr1 hne
  obtain ⟨h3, hr3⟩ := br_fail hr2 hne
  obtain ⟨h4, hr4⟩ := br_fail hr3 hne
  have := samL_ok h1; subst this
  rw [Nat.ble_eq] at h2
  obtain ⟨g1, hg'⟩ := brb (show br _ _ false = true from hg)
  obtain ⟨g2, hg'⟩ := brb hg'
  obtain ⟨g3, hg'⟩ := brb hg'
  obtain ⟨g4, g5⟩ := brb hg'
  obtain ⟨g5, _⟩ := brb g5
  rw [Nat.ble_eq] at g5
  have h0h : ∀ b o, getO m.h0 b = some o → getO h b = some o := fun b o hb => by
    rcases putsL_at g1 hb with q | ⟨_, q⟩
    · exact subL_ok h3 b o q
    · rcases putsL_at g2 q with q | ⟨_, q⟩
      · exact subL_ok h4 b o q
      · exact absurd q (by unfold getO; rw [T.get_nil]; simp)
  rcases hc f m.args m.h0 m.n0 m.chk _ hrun (by simp) with ⟨c1, c2⟩ | c2
  · refine .inl ⟨c1, fun ρ w as hi ha => (c2 ρ w as (hi.prune h0h h2 g5) ha).mono fun e w' hp => ?_⟩
    obtain ⟨rv, e1, hp⟩ := hp
    exact ⟨rv, e1, Memo.post hg hi h2 h3 h4 hr4 hp⟩
  · refine .inr fun ρ w as hi ha => ?_
    obtain ⟨rv, w', e1, hp⟩ := c2 ρ w as (hi.prune h0h h2 g5) ha
    exact ⟨rv, w', e1, Memo.post hg hi h2 h3 h4 hr4 hp⟩
end
end Go.VE
namespace Go.VE
noncomputable section
open Go
def xDr (l : List DOper) : X := xDraw l l.reverse
def ctOf : List (Nat × LF) → T (Option LF)
  | [] => .nil
  | p :: l => (ctOf l).put (some (some p.2)) (p.1 + 1)
inductive IK where
  | idx | cnt | cmp | typeOf | comp | tElem | kind | assg | impl | valueOf | vType | isNil | vElem | vSet | same | mnz (ty : Nat)
  deriving Inhabited, DecidableEq
def intrK (T : RTab) (k : IK) : List AV → H → Nat → K → RR :=
  @IK.casesOn (fun _ => List AV → H → Nat → K → RR) k iIdx iCnt iCmp (iTypeOf T) (iComp T) (iTElem T) (iKind T) (iAssg T) (iImpl T) (iValueOf T) (iVType T) (iIsNil T) (iVElem T) (iVSet T) iSame iMnz
def assocI (a : Nat) : List (Nat × IK) → Option IK
  | [] => none
  | (c, v) :: l => br (Nat.beq a c) (some v) (assocI a l)
def joinLF : Option (Option LF) → Option LF
  | some r => r
  | none => none
def intrA (T : RTab) : Option IK → Option (List AV → H → Nat → K → RR)
  | some k => some (intrK T k)
  | none => none
def reck (ct : T (Option LF)) (T : RTab) (is : List (Nat × IK)) (ex : Nat → Option (List AV → H → Nat → K → RR)) (it : IterT) : Cx :=
  { code := fun f => joinLF (ct.get (f + 1)),
    intr := fun f => match ex f with | some i => some i | none => intrA T (assocI f is),
    iter := it }
end
end Go.VE
