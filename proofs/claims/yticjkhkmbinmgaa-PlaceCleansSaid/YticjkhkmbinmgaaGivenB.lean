/- slices.Clip and slices.Clone at this translation. No condition but that the row is in memory (Clone: of at most 1000 ranges). -/
import Derived.Test.YticjkhkmbinmgaaGivenA
namespace Go.Proofs.Yticjkhkmbinmgaa.GivenB
set_option linter.unusedSimpArgs false
open Go.RowKit Go.Proofs.YticjkhkmbinmgaaW.PrintWords Go.Proofs.YticjkhkmbinmgaaW.PrintLast Go.Proofs.YticjkhkmbinmgaaW.PrintMore
open Go.Proofs.Yticjkhkmbinmgaa.QClean (S25 z25 k25 k25_open k25_mkM k25_mk) 
open Go.Proofs.Yticjkhkmbinmgaa.GivenA

/-! ### Clip -/
def slices_ClipR.f (l0 : List S25) : Option (List S25) := some l0
theorem slices_ClipR.calls (P0_ : Nat → Prop) (A0 : Option Addr) (c0 : Nat) (l0 : List S25) (r : List S25) (w : World) (hs0 : Kd.V k25 25 w w.heap.size (fun k_ => P0_ k_) (.slice A0 l0.length c0) l0) (h : slices_ClipR.f l0 = some r) :
    Calls Try.prog 27 #[.slice A0 l0.length c0] w fun e w' => ∃ v0_ : Value, e = .returned (v0_) ∧ Kd.V k25 25 w' w.heap.size (fun k_ => (P0_ k_ ∨ w.heap.size ≤ k_)) v0_ r ∧ Below w.heap.size w w' := by
  obtain rfl := Option.some.inj h
  have hV := Kd.V_at hs0
  have hc := hV.2.1
  have hF := hV.2.2
  have key : Kd.V k25 25 w w.heap.size (fun k_ => (P0_ k_ ∨ w.heap.size ≤ k_)) (.slice A0 l0.length l0.length) l0 := Kd.V_mk (Nat.le_refl _) (Kd.F_mono hF (fun _ hk => .inl hk))
  clear hs0 hF hV
  generalize l0.length = n at hc key ⊢
  go_enter Try.func27, Try.ntmps27
  go_wp2
  go_ret
  exact ⟨_, rfl, key, Below.refl _ _⟩

/-! ### Clone -/
def flat (l : List S25) : List Value := (l.map encS).flatten
theorem flat_nil : flat [] = [] := rfl
theorem flat_cons (x : S25) (l : List S25) : flat (x :: l) = .int .i64 x.f0 :: .int .i64 x.f1 :: flat l := rfl
theorem flat_length : ∀ l, (flat l).length = l.length * 2
  | [] => rfl
  | x :: l => by rw [flat_cons, List.length_cons, List.length_cons, flat_length l, List.length_cons]; omega
theorem flat_drop : ∀ (l : List S25) (j : Nat), (flat l).drop (j * 2) = flat (l.drop j)
  | l, 0 => rfl
  | [], j + 1 => by simp [flat_nil]
  | x :: l, j + 1 => by
    rw [flat_cons, show (j + 1) * 2 = j * 2 + 1 + 1 by omega, List.drop_succ_cons, List.drop_succ_cons, flat_drop l j]; rfl
theorem flat_get (l : List S25) (t : Nat) (u : Value) (h : (flat l)[t]? = some u) : ∃ x, l[t / 2]? = some x ∧ (encS x)[t % 2]? = some u := by
  have e : t = t / 2 * 2 + t % 2 := by omega
  have h2 : ((flat l).drop (t / 2 * 2))[t % 2]? = some u := by rw [List.getElem?_drop, ← e]; exact h
  rw [flat_drop] at h2
  cases hd : l.drop (t / 2) with
  | nil => rw [hd] at h2; simp [flat_nil] at h2
  | cons x r =>
    rw [hd, flat_cons] at h2
    refine ⟨x, ?_, ?_⟩
    · have : (l.drop (t / 2))[0]? = some x := by rw [hd]; rfl
      rwa [List.getElem?_drop, Nat.add_zero] at this
    · have h2' : t % 2 = 0 ∨ t % 2 = 1 := by omega
      rcases h2' with e0 | e1
      · rw [e0] at h2 ⊢; exact h2
      · rw [e1] at h2 ⊢; exact h2
theorem flat_reps {w : World} {base : Nat} {ok : Nat → Prop} (l : List S25) : Reps (k25.M w base ok) 2 l (flat l) := by
  refine ⟨flat_length l, fun j p hj => ?_⟩
  rw [flat_drop]
  have : l.drop j = p :: l.drop (j + 1) := by
    have hlt : j < l.length := by
      rcases Nat.lt_or_ge j l.length with h | h
      · exact h
      · rw [List.getElem?_eq_none h] at hj; cases hj
    rw [List.drop_eq_getElem_cons hlt]
    rw [List.getElem?_eq_getElem hlt] at hj
    rw [Option.some.inj hj]
  rw [this, flat_cons]
  exact k25_mkM _ _ _ p
theorem flat_one (l : List S25) : ∀ u ∈ flat l, u.oneCell' = true := by
  intro u hu
  obtain ⟨t, ht, rfl⟩ := List.getElem_of_mem hu
  obtain ⟨x, _, hx⟩ := flat_get l t _ (List.getElem?_eq_getElem ht)
  have := List.mem_of_getElem? hx
  simp [encS] at this
  rcases this with h | h <;> rw [h] <;> rfl
theorem reps_flat {R : S25 → List Value → Prop} (hR : ∀ x c, R x c → c = encS x) : ∀ (l : List S25) (cs : List Value), Reps R 2 l cs → cs = flat l
  | [], cs, h => by have := h.1; simp at this; rw [this]; rfl
  | x :: l, cs, h => by
    have h0 := hR x _ (h.2 0 x rfl)
    have ih := reps_flat hR l (cs.drop 2) ⟨by rw [List.length_drop, h.1, List.length_cons]; omega, fun j p hj => by
      have := h.2 (j + 1) p hj
      rwa [show (j + 1) * 2 = 2 + j * 2 by omega, ← List.drop_drop] at this⟩
    rw [Nat.zero_mul, List.drop_zero] at h0
    rw [← List.take_append_drop 2 cs, h0, ih]; rfl
theorem R_of_flat {w : World} {base : Nat} {ok : Nat → Prop} {v : Value} {l : List S25} (ho : w.ownsRow base 25 2 v l.length (flat l)) (hk : ∀ k, v.ownBlock = some k → ok k) : Kd.R k25 25 w base ok v l :=
  ⟨hk, flat l, ho, flat_reps l⟩
theorem flat_of_R {w : World} {base : Nat} {ok : Nat → Prop} {v : Value} {l : List S25} (h : Kd.R k25 25 w base ok v l) : w.ownsRow base 25 2 v l.length (flat l) := by
  obtain ⟨_, inner, ho, hr⟩ := h
  have e : inner = flat l := reps_flat (fun x c hc => k25_open (k25.K_of_M hc)) l inner hr
  rw [← e]; exact ho

def slices_CloneR.f (l0 : List S25) : Option (List S25) := if l0.length ≤ 1000 then some l0 else none
set_option maxHeartbeats 2000000 in
set_option maxRecDepth 100000 in
theorem clone_some (ad : Addr) (n c : Nat) (news : List Value) (w : World) (hn : n ≤ 1000) (hl : news.length = n * 2) (hc : ∀ j u, news[j]? = some u → w.cell? (ad.add j) = some u) (h1 : ∀ u ∈ news, u.oneCell' = true) :
    Calls Try.prog 24 #[.slice (some ad) n c] w fun e w' => ∃ v', e = .returned v' ∧ w'.ownsRow w.heap.size 25 2 v' n news ∧ Below w.heap.size w w' := by
  have q22 : ∀ (w : World) (a : Option Addr) (n c n' c' : Nat), (binOp .eql 22 (.slice a n c) (.slice none n' c')).run Try.prog w = .ok (.bool a.isNone) w := fun w a n c n' c' => Lib.run_eql_slice_nil w _ _ a n c n' c' Try.underlying22
  obtain ⟨i0, hi, hzz⟩ := Option.map_eq_some_iff.1 Go.Proofs.Yticjkhkmbinmgaa.QClean.info25
  simp only [Prod.mk.injEq] at hzz
  obtain ⟨hz0, hz1, hz2⟩ := hzz
  have A : Aside (∀ j u, news[j]? = some u → w.cell? (ad.add j) = some u) := hc
  clear hc
  go_enter Try.func24, Try.ntmps24
  go_wp2_with (at_builtin; refine wpList_append_own _ rfl _ _ 22 rfl w.heap.size 25 i0 _ 2 16 Try.underlying22 hi hz0 hz1 hz2 rfl (by decide) _ _ _ rfl (World.ownsRow_made w #[] 0 (Nat.le_refl _) (Nat.zero_le _) (by simp)) ad n c news rfl ?qc1 ?qc2 ?qc3 ?qc4 ?qc5 ?qc6 ?_)
  case qc1 => exact hl
  case qc2 =>
    intro j u hj
    exact Lib.cell?_alloc_some _ (A.out j u hj)
  case qc3 => exact h1
  case qc4 => rw [Nat.zero_add]; simp only [maxLen]; omega
  case qc5 => rw [Nat.zero_add]; omega
  case qc6 => simp
  intro v' w1 hown hgrow hnil
  go_wp2
  go_ret
  refine ⟨v', rfl, by simpa using hown, ?_⟩
  exact ((Below.refl _ w).alloc (Nat.le_refl _) _).grown hgrow (by simp) (by intro k hk; simp [Value.ownBlock] at hk; omega)

set_option maxHeartbeats 1000000 in
theorem slices_CloneR.calls (A0 : Option Addr) (c0 : Nat) (l0 : List S25) (r : List S25) (w : World) (hr0 : Kd.C k25 w A0 l0.length l0) (_hc0 : l0.length ≤ c0) (h : slices_CloneR.f l0 = some r) :
    Calls Try.prog 24 #[.slice A0 l0.length c0] w fun e w' => ∃ v0_ : Value, e = .returned (v0_) ∧ Kd.R k25 25 w' w.heap.size (fun _ => True) v0_ r ∧ Below w.heap.size w w' := by
  unfold slices_CloneR.f at h
  by_cases hl : l0.length ≤ 1000
  · rw [if_pos hl] at h
    obtain rfl := Option.some.inj h
    cases A0 with
    | none =>
      have e : l0 = [] := by
        rcases Nat.eq_zero_or_pos l0.length with e | e
        · exact List.length_eq_zero_iff.1 e
        · obtain ⟨_, he, _⟩ := hr0.2.2 e; cases he
      subst e
      have q22 : ∀ (w : World) (a : Option Addr) (n c n' c' : Nat), (binOp .eql 22 (.slice a n c) (.slice none n' c')).run Try.prog w = .ok (.bool a.isNone) w := fun w a n c n' c' => Lib.run_eql_slice_nil w _ _ a n c n' c' Try.underlying22
      go_enter Try.func24, Try.ntmps24
      go_wp2
      go_ret
      exact ⟨_, rfl, Kd.R_nil _ _ _ _ _, Below.refl _ _⟩
    | some ad =>
      refine (clone_some ad l0.length c0 (flat l0) w hl (flat_length l0) (fun t u ht => ?_) (flat_one l0)).mono ?_
      · obtain ⟨x, hx, hu⟩ := flat_get l0 t u ht
        have hp : 0 < l0.length := by
          rcases Nat.eq_zero_or_pos l0.length with e | e
          · rw [List.length_eq_zero_iff] at e; subst e; simp at hx
          · exact e
        obtain ⟨ad', he, hc⟩ := hr0.2.2 hp
        obtain rfl := Option.some.inj he
        obtain ⟨cs, _, hK, hcell⟩ := hc _ x hx
        have e : cs = encS x := k25_open hK
        subst e
        have h3 : w.cell? (ad.add (t / 2 * 2 + t % 2)) = some u := hcell _ u hu
        rwa [show t / 2 * 2 + t % 2 = t by omega] at h3
      · rintro e w' ⟨v, rfl, ho, hb⟩
        exact ⟨v, rfl, R_of_flat ho (fun _ _ => trivial), hb⟩
  · rw [if_neg hl] at h; cases h

end Go.Proofs.Yticjkhkmbinmgaa.GivenB
